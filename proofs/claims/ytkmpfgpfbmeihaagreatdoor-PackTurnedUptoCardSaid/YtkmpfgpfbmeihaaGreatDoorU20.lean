/-
  Texts of this proof, one behind the other: RsTry, PkLaw3, RsTold, RsFrom, PkLaw5, RsAsk, RsMade, WrRight, OKey, OCmp.
-/
import Derived.Test.YtkmpfgpfbmeihaaGreatDoorU19
import Derived.Shelf.Small.Strs
import Derived.Lib.Bytealg
set_option maxHeartbeats 16000000
set_option maxRecDepth 100000
set_option linter.unusedVariables false
set_option linter.unusedSimpArgs false
namespace Go.Proofs.YtkmpfgpfbmeihaaGreatDoor
namespace pk
open Go Go.RowKit lib bm
theorem qyk (p:St->Bool):∀(W:List St) (j:Nat) (s:St),(∀t,t<j->∀y,W[t]?=some y->p y=false)->W[j]?=some s->p s=true->W.find? p=some s
 | [],j,s,_,h,_=>by simp at h
 | x::t,0,s,_,h,hs=>by
  simp only[aV,eS]at h;rw[Kd,h,hs]
 | x::t,j+1,s,hn,h,hs=>by rw[Kd,hn 0 (by omega) x rfl];exact qyk p t j s (λk hk y hy=>hn (k+1) (by omega) y (by simpa using hy)) (by simpa using h) hs
def Tried (w:World) (g O S:Nat) (gv tv:Value) (la:Option Addr) (ms:List EM) (W:List St) (i:Nat) (T:St) (e:Ending) (w':World):Prop:=
 match T with
 | none=>e = .returned (.bool false)/\Fr [] w w'
 | some s=>e = .returned (.bool true)/\Fr [O,S] w w'/\∃C' D',Rb w' g O S gv tv la ms C' D'/\tL w' O S C' D' (ms.map (·.1)) (W.set i (some s))
theorem zc6 (g O S:Nat) (gv tv:Value) (la:Option Addr) (ms:List EM) (C D:Array Value) (W:List St) (i:Nat) (m:EM) (w:World) (h:Rb w g O S gv tv la ms C D) (hs:tL w O S C D (ms.map (·.1)) W) (hm:ms[i]?=some m) (hW:W[i]?=some none)
  (hp:∀w',Fr [O,S] w w'->obj.Pw w') (hk:(m.1.kind=6/\∃q,rU (ms.map (·.1)) i m.1.off=some q)\/m.1.kind=7) :
  Calls Tryz.prog 48 #[.pointer (some ⟨g,0,none⟩),.int .i64 i] w (Tried w g O S gv tv la ms W i (sR (ms.map (·.1)) W i m.1)):=by
 obtain⟨n,hn⟩:=ah ms.length;have dz:i<n:=by rw[hn];exact (lA.1 hm).1
 have lW:n<=4096:=by rw[hn];exact h.few
 have y7:W.length=n:=by rw[hs.len,cN,hn]
 have b1:=cell_of h.box 1;have b2:=cell_of h.box 2;simp only[bw,aV,bN]at b1 b2;rw[<-hn]at b1 b2;have YL:D.size=n*4:=by rw[h.sc,hn]
 have hCs:C.size=n*5:=by rw[h.oc,hn]
 have lH:=hs.base i m.1 (by rw[j5,hm];rfl);obtain⟨T,hT⟩:=ah (sR (ms.map (·.1)) W i m.1);rw[<-hT];have H:=oG h hs hm hW hp hn YL hCs y7;clear h hs hm hW hp hn;rcases hk with⟨hk,q,hq⟩|hk
 ·have tD:iO (ms.map (·.1)) i m.1 = .iface 123 (.int .i64 q):=by unfold iO;rw[if_pos hk,hq];rfl
  rw[tD]at lH;have y3:w.cell? ⟨S,i*4+3,none⟩=some (.iface 123 (.int .i64 q)):=by rw[cell_of H.out.1.sb];exact lH
  have Ec:q<n:=by have:=List.mem_of_find?_eq_some hq;simp at this;omega
  have sL:T=yV m.1 (W[q]?.getD none):=by rw[hT];unfold sR;rw[if_pos hk,hq]
  have xP:∀w:World,(Instr.typeAssert (.iface 123 (.int .i64 q)) 98 123 true).run Tryz.prog w = .ok (.tuple #[.int .i64 q,.bool true]) w:=λ_=>by kernel_rfl
  clear lH tD hq hk hT y7;go_enter Tryz.func48,Tryz.ntmps48;go_upto_region 13 with fail;clear y3 xP;obtain⟨s,rH⟩:∃s,W[q]?=some s:=⟨W[q]'(by rw[H.out.2.2.2.2.2.2.2.2];omega),bO _⟩;rw[rH,Option.getD_some]at sL;have az:=H.out.2.1.st q s rH;have gq:decide (((q:Nat):Int)<0)=false:=by simp
  match s,az,sL,rH with
  | none,az,sL,rH=>
   have y0:w.cell? ⟨S,q*4,none⟩=some (.bool false):=by rw[cell_of H.out.1.sb];exact az.1
   have HT:=af sL;clear az sL rH b1;go_wp2;go_ret;rw[HT.out];exact⟨rfl,Fr.refl _ _⟩
  | some (.error x),az,sL,rH=>
   have y0:w.cell? ⟨S,q*4,none⟩=some (.bool true):=by rw[cell_of H.out.1.sb];exact az.1
   have y1:w.cell? ⟨S,q*4+1,none⟩=some (.int .i64 x):=by rw[cell_of H.out.1.sb];exact az.2.1
   have hx:=az.2.2;have gx:((x:Int)!=0)=true:=by simp;omega
   have HT:=au sL az hx;clear az sL rH b1 hx;go_upto_region 16 with fail;have wZ:g∉[S]:=by simp;exact H.out.1.gS
   have s2:∀x,(sup [S] w.drew x).cell? ⟨g,2,none⟩=some (.slice (some ⟨S,0,none⟩) n n):=λx=>(dk [S] w.drew x).cell (show w.drew.cell? _=_ from b2) wZ
   refine jh 24 [(false,0),(false,1),(false,2),(false,3),(false,4),(false,5),(false,6),(false,7),(false,8),(false,9),(false,10),(false,11),(false,12),(false,13),(false,14),(false,15),(false,16),(true,17),(false,18),(false,19),(true,20),(false,21),(false,22),(true,23)] [S] (by kernel_rfl) (by kernel_rfl) (λ_ _ d _ _ h=>by cases d<;>exact h) ?_;simp only[iw];refine cS 17 rfl ?_;simp only[aU];repeat (go_big_quiet_step (fail))
   refine wpQuiet_nil ?_;clear s2 wZ;obtain⟨w1,cD⟩:=ah w.drew;have fd:Fr [] w w1:=by rw[cD];exact Fr.av [] w
   replace b2:w1.cell? ⟨g,2,none⟩=some (.slice (some ⟨S,0,none⟩) n n):=fd.cell b2 (by simp);replace y1:w1.cell? ⟨S,q*4+1,none⟩=some (.int .i64 x):=fd.cell y1 (by simp);have hR:=H.out.1.fr fd;rw[<-cD];clear cD;have r0:D[i*4]?=some (.bool false):=(H.out.2.1.st i none H.out.2.2.2.1).1;have r1:D[i*4+1]?=some (.int .i64 0):=(H.out.2.1.st i none H.out.2.2.2.1).2;have v0:w1.cell? ⟨S,i*4,none⟩=some (.bool false):=by rw[cell_of hR.sb];exact r0
   have z0:=aO hR.sb (i*4);have zc:=aX (o:=i*4) hR.sb (.bool true);have f4:Fr [S] w1 (w1.setCell ⟨S,i*4,none⟩ (.bool true)):=(Fr.refl [S] w1).setCell (by simp) _;have v1:(w1.setCell ⟨S,i*4,none⟩ (.bool true)).cell? ⟨S,i*4+1,none⟩=some (.int .i64 0):=by rw[cell_of zc,aZ (by omega)];exact r1
   have z1:=aO zc (i*4+1);have C5:=hR.rB f4 zc (by rw[qX]);have Lb:=aX (o:=i*4+1) zc (.int .i64 x);have f5:Fr [S] (w1.setCell ⟨S,i*4,none⟩ (.bool true)) ((w1.setCell ⟨S,i*4,none⟩ (.bool true)).setCell ⟨S,i*4+1,none⟩ (.int .i64 x)):=(Fr.refl [S] _).setCell (by simp) _;have yh:=C5.rB f5 Lb (by rw[qX]);have fF:=f4.trans f5;have H4:=cz yh fF fd r0 r1 f4 f5;clear hR r0 r1 zc f4 C5 Lb f5 yh fF fd y0;clear b2;refine ep rfl ?_;intro X1 mX;go_wp2;refine mX.out _ _ (Fr.refl _ _) ?_;clear mX X1 y1;refine cS 2 rfl ?_;simp only[aU];repeat (go_big_quiet_step (fail))
   refine wpQuiet_nil ?_;refine ep rfl ?_;intro X1 mX;go_wp2;refine mX.out _ _ H4.out.2.2.2.2.2.1 ?_;clear mX X1 v0 z0;refine cS 2 rfl ?_;simp only[aU];repeat (go_big_quiet_step (fail))
   refine wpQuiet_nil ?_;refine ep rfl ?_;intro X1 mX;go_wp2;refine mX.out _ _ H4.out.2.2.2.2.2.2 ?_;clear mX X1 v1 z1;refine fE ?_;go_wp2;go_ret;obtain⟨yh,fF,fd,r0,r1,f4,f5⟩:=H4.out;obtain⟨sL,az,hx⟩:=HT.out;rw[sL];have fT:=(fd.mono (T:=[O,S]) (by simp)).trans (fF.mono (T:=[O,S]) (λx hx=>.inl (by simp at hx;simp[hx])));refine⟨rfl,fT,C,_,yh,H.out.2.1.one i _ (λ_ _=>rfl) (λj hj=>by rw[aZ (by omega),aZ (by omega)]) fT ⟨?_,?_,hx⟩⟩
   ·rw[aZ (by omega)];exact iu (by omega)
   ·exact iu (by rw[qX];omega)
  | some (.ok (ob,d)),az,sL,rH=>
   have y0:w.cell? ⟨S,q*4,none⟩=some (.bool true):=by rw[cell_of H.out.1.sb];exact az.1
   have y1:w.cell? ⟨S,q*4+1,none⟩=some (.int .i64 0):=by rw[cell_of H.out.1.sb];exact az.2.1
   have y2:w.cell? ⟨S,q*4+2,none⟩=some (.int .i64 d):=by rw[cell_of H.out.1.sb];exact az.2.2.1
   obtain⟨hd,ba,bc,ho,bP,kG,hle⟩:=az.2.2.2;have o0:w.cell? ⟨O,q*5,none⟩=some (.int .i64 ob.kind):=by rw[cell_of H.out.1.ob];exact ho 0 _ rfl
   have o1:w.cell? ⟨O,q*5+1,none⟩=some (.slice ba ob.body.length bc):=by rw[cell_of H.out.1.ob];exact ho 1 _ rfl
   obtain⟨bl,bK⟩:=ah ob.body.length;obtain⟨kd,mE⟩:=ah ob.kind;rw[<-bK]at o1;rw[<-mE]at o0;have gx:((0:Int)!=0)=false:=by decide
   have fd:=Fr.av [] w;have cC:=VH g O S gv tv la ms C D i m ob.kind ba bc ob.body d w.drew (H.out.1.fr fd) H.out.2.2.1 (bP.fr fd) kG (by omega) (H.out.2.2.2.2.1 _ (fd.mono (by simp))) (H.out.2.1.st i none H.out.2.2.2.1).2 (λw' f=>H.out.2.2.2.2.1 _ ((fd.mono (by simp)).trans f));rw[<-bK,<-mE]at cC;have HT:=aF sL cC mE fd;have ew:wrap64 ((d:Int)+1)=((d+1:Nat):Int):=by unfold wrap64;omega
   clear az sL rH bP kG hle cC bK mE fd;go_upto_region 12 with fail;refine uw 27 (by kernel_rfl) (by kernel_rfl) ?_;simp only[uj];repeat (go_big_quiet_step (fail))
   refine wpQuiet_nil ?_;clear y0 y1 y2 o0 o1 b1 b2;go_wp2_with (go_at_call 80;refine HT.out.2.1.mono ?_;rintro e w2 ⟨rfl,f2,C2,D2,kM,jZ⟩;have H2:=au f2 kM jZ;clear f2 kM jZ);go_ret;obtain⟨f2,kM,jZ⟩:=H2.out;obtain⟨sL,_,mE,fd⟩:=HT.out;rw[sL];rw[mE]at jZ;have fT:=(fd.mono (T:=[O,S]) (by simp)).trans f2;exact⟨rfl,fT,C2,D2,kM,H.out.2.1.one i _ jZ.1 jZ.2.1 fT (jZ.st (lt_of_block (H.out.1.fr fd).ob) (lt_of_block (H.out.1.fr fd).sb))⟩
 ·have tD:iO (ms.map (·.1)) i m.1 = .iface 124 (.string (str m.1.base)):=by unfold iO;rw[if_neg (by omega),if_pos hk]
  rw[tD]at lH;have y3:w.cell? ⟨S,i*4+3,none⟩=some (.iface 124 (.string (str m.1.base))):=by rw[cell_of H.out.1.sb];exact lH
  have hT7:T=yV m.1 ((W.find? (uI m.1.base)).getD none):=by rw[hT];unfold sR;rw[if_neg (by omega)]
  obtain⟨sb,kR⟩:=ah (str m.1.base);rw[<-kR]at y3;have xP:∀w:World,(Instr.typeAssert (.iface 124 (.string sb)) 98 123 true).run Tryz.prog w = .ok (.tuple #[.int .i64 0,.bool false]) w:=λ_=>by kernel_rfl
  have nL:∀w:World,(Instr.typeAssert (.iface 124 (.string sb)) 98 124 false).run Tryz.prog w = .ok (.string sb) w:=λ_=>by kernel_rfl
  have H7:=ak hT7 kR;clear lH tD hk hT y7 hT7 kR;go_enter Tryz.func48,Tryz.ntmps48;go_wp2;clear y3 xP nL;go_loopg [5,9,38] n (λk s5 s9 s38 wr=>∃j:Nat,s38 = .int .i64 (j:Nat)/\j+k=n/\s5 = .int .i64 (-1)/\wr=w/\∀t,t<j->∀s,W[t]?=some s->uI m.1.base s=false);case atStart=>exact⟨0,rfl,by omega,rfl,rfl,λt ht=>by omega⟩
  case round=>
   obtain⟨q,rfl,hqk,rfl,pb,mT⟩:=hrel;subst pb;have HN:=af mT;clear mT;by_cases Ec:q<n
   ·obtain⟨k,rfl⟩:∃k,gk=k+1:=⟨gk-1,by omega⟩;obtain⟨s,rH⟩:∃s,W[q]?=some s:=⟨W[q]'(by rw[H.out.2.2.2.2.2.2.2.2];omega),bO _⟩;have az:=H.out.2.1.st q s rH;have kH:uI m.1.base s=false->∀t,t<q+1->∀s,W[t]?=some s->uI m.1.base s=false:=λh t ht y hy=>by
     by_cases htq:t=q
     ·subst htq;rw[rH]at hy;obtain rfl:=lL hy;exact h
     ·exact HN.out t (by omega) y hy
    match s,az,rH,kH with
    | none,az,rH,kH=>
     have y0:wr.cell? ⟨S,q*4,none⟩=some (.bool false):=by rw[cell_of H.out.1.sb];exact az.1
     have HX:=af (kH rfl);clear az rH kH;go_wp2;go_roundg k;case measure=>omega
     case rel=>exact⟨q+1,rfl,by omega,rfl,rfl,HX.out⟩
    | some (.error x),az,rH,kH=>
     have y0:wr.cell? ⟨S,q*4,none⟩=some (.bool true):=by rw[cell_of H.out.1.sb];exact az.1
     have y1:wr.cell? ⟨S,q*4+1,none⟩=some (.int .i64 x):=by rw[cell_of H.out.1.sb];exact az.2.1
     have hx:=az.2.2;have gx:((x:Int)==0)=false:=by simp;omega
     have HX:=af (kH rfl);clear az rH kH hx;go_wp2;go_roundg k;case measure=>omega
     case rel=>exact⟨q+1,rfl,by omega,rfl,rfl,HX.out⟩
    | some (.ok (ob,d)),az,rH,kH=>
     have yy0:wr.cell? ⟨S,q*4,none⟩=some (.bool true):=by rw[cell_of H.out.1.sb];exact az.1
     have yy1:wr.cell? ⟨S,q*4+1,none⟩=some (.int .i64 0):=by rw[cell_of H.out.1.sb];exact az.2.1
     obtain⟨si,kQ⟩:=ah (str ob.id);have yi:wr.cell? ⟨O,q*5+2,none⟩=some (.string si):=by obtain⟨_,ba,bc,ho,_⟩:=az.2.2.2;rw[cell_of H.out.1.ob,kQ];exact ho 2 _ rfl
     by_cases hid:ob.id=m.1.base
     ·have gs:(si.toList==sb.toList)=true:=by rw[kQ,H7.l1,hid,bu];exact beq_self_eq_true _
      have sL:T=yV m.1 (some (.ok (ob,d))):=by rw[H7.o0,qyk (uI m.1.base) W q _ (λt ht y hy=>HN.out t ht y hy) rH (by simpa[uI] using hid)];rfl
      clear hid kH kQ;go_upto_region 13 with fail;clear gs yi yy0 yy1;have gq:decide (((q:Nat):Int)<0)=false:=by simp
      have y0:wr.cell? ⟨S,q*4,none⟩=some (.bool true):=by rw[cell_of H.out.1.sb];exact az.1
      have y1:wr.cell? ⟨S,q*4+1,none⟩=some (.int .i64 0):=by rw[cell_of H.out.1.sb];exact az.2.1
      have y2:wr.cell? ⟨S,q*4+2,none⟩=some (.int .i64 d):=by rw[cell_of H.out.1.sb];exact az.2.2.1
      obtain⟨hd,ba,bc,ho,bP,kG,hle⟩:=az.2.2.2;have o0:wr.cell? ⟨O,q*5,none⟩=some (.int .i64 ob.kind):=by rw[cell_of H.out.1.ob];exact ho 0 _ rfl
      have o1:wr.cell? ⟨O,q*5+1,none⟩=some (.slice ba ob.body.length bc):=by rw[cell_of H.out.1.ob];exact ho 1 _ rfl
      obtain⟨bl,bK⟩:=ah ob.body.length;obtain⟨kd,mE⟩:=ah ob.kind;rw[<-bK]at o1;rw[<-mE]at o0;have gx:((0:Int)!=0)=false:=by decide
      have fd:=Fr.av [] wr;have cC:=VH g O S gv tv la ms C D i m ob.kind ba bc ob.body d wr.drew (H.out.1.fr fd) H.out.2.2.1 (bP.fr fd) kG (by omega) (H.out.2.2.2.2.1 _ (fd.mono (by simp))) (H.out.2.1.st i none H.out.2.2.2.1).2 (λw' f=>H.out.2.2.2.2.1 _ ((fd.mono (by simp)).trans f));rw[<-bK,<-mE]at cC;have HT:=aF sL cC mE fd;have ew:wrap64 ((d:Int)+1)=((d+1:Nat):Int):=by unfold wrap64;omega
      clear az sL rH bP kG hle cC bK mE fd;go_upto_region 12 with fail;refine uw 27 (by kernel_rfl) (by kernel_rfl) ?_;simp only[uj];repeat (go_big_quiet_step (fail))
      refine wpQuiet_nil ?_;clear y0 y1 y2 o0 o1 b1 b2;go_wp2_with (go_at_call 80;refine HT.out.2.1.mono ?_;rintro e w2 ⟨rfl,f2,C2,D2,kM,jZ⟩;have H2:=au f2 kM jZ;clear f2 kM jZ);go_ret;obtain⟨f2,kM,jZ⟩:=H2.out;obtain⟨sL,_,mE,fd⟩:=HT.out;rw[sL];rw[mE]at jZ;have fT:=(fd.mono (T:=[O,S]) (by simp)).trans f2;exact⟨rfl,fT,C2,D2,kM,H.out.2.1.one i _ jZ.1 jZ.2.1 fT (jZ.st (lt_of_block (H.out.1.fr fd).ob) (lt_of_block (H.out.1.fr fd).sb))⟩
     ·have gs:(si.toList==sb.toList)=false:=by rw[kQ,H7.l1,bu,bu];simpa using hid
      have HX:=af (kH (by simpa[uI] using hid));clear az rH kH hid kQ;go_wp2;go_roundg k;case measure=>omega
      case rel=>exact⟨q+1,rfl,by omega,rfl,rfl,HX.out⟩
   ·have hT0:T=none:=by
     rw[H7.o0,List.find?_eq_none.2 (λx hx=>?_)]
     ·rfl
     ·obtain⟨t,ht⟩:=DG.1 hx;have:=(lA.1 ht).1;rw[HN.out t (by rw[H.out.2.2.2.2.2.2.2.2]at this;omega) x ht];simp
    have HX:=af hT0;clear hT0;obtain rfl:q=n:=by omega
    go_wp2;go_ret;rw[HX.out];exact⟨rfl,Fr.refl _ _⟩
end pk
namespace pk
def sQ (l:List eo) (W:List St):Prop:=∀i x,l[i]?=some x->W[i]?=some none->(x.kind=6/\∃q,rU l i x.off=some q)\/x.kind=7
theorem qul (l:List eo):sQ l (ig l):=by
 intro i x hx hW;rw[qn9 l i x hx]at hW;have h:=lL hW;unfold fK at h;split at h
 ·rename_i h6;split at h
  ·cases h
  ·rename_i q hq;exact .inl ⟨h6,q,hq⟩
 ·split at h
  ·rename_i h7;exact .inr h7
  ·cases h
theorem sQ.set {l:List eo} {W:List St} (h:sQ l W) (i:Nat) (s:Except Nat (Obj×Nat)):sQ l (W.set i (some s)):=by
 intro k x hx hW;rw[List.getElem?_set]at hW;split at hW
 ·split at hW
  ·cases hW
  ·cases hW
 ·exact h k x hx hW
theorem sQ.pass {l:List eo}:∀(n i:Nat) (W:List St) (more:Bool),sQ l W->sQ l (pass l n i W more).1
 | 0,i,W,more,h=>h
 | n+1,i,W,more,h=>by
  rw[pk.pass];split
  ·split
   ·exact sQ.pass n (i+1) W more h
   ·exact sQ.pass n (i+1) _ true (h.set i _)
  ·exact sQ.pass n (i+1) W more h
theorem sQ.ask {l:List eo} {kn:List Kn}:∀(n i:Nat) (W:List St) {W2:List St},sQ l W->ask l kn n i W=some W2->sQ l W2
 | 0,i,W,W2,h,e=>by cases e
 | n+1,i,W,W2,h,e=>by
  rw[pk.ask]at e;split at e
  ·split at e
   ·split at e
    ·obtain rfl:=lL e;exact h.set i _
    ·exact sQ.ask n (i+1) W h e
   ·exact sQ.ask n (i+1) W h e
  ·exact sQ.ask n (i+1) W h e
open Go Go.RowKit lib bm
def pV (q:Option Nat):Value:=.pointer (q.map λb=>⟨b,0,none⟩)
def pD:Option Nat->DataW Unit
 | none=>.nil
 | some b=>.lit (.int .i64 b)
def pR:Value->Option (DataW Unit×List MemPlace)
 | .pointer none=>some (.nil,[])
 | .pointer (some a)=>if a=⟨a.block,0,none⟩ then some (.lit (.int .i64 (a.block:Nat)),[]) else none
 | _=>none
theorem Tr (q:Option Nat):pR (pV q)=some (pD q,[]):=by
 cases q with
 | none=>rfl
 | some b=>simp[pR,pV,pD]
theorem QM {v:Value} {z:DataW Unit×List MemPlace} (h:pR v=some z):∃q,v=pV q/\z=(pD q,[]):=by
 unfold pR at h;split at h
 ·exact⟨none,rfl,(lL h).symm⟩
 ·rename_i a;split at h
  ·rename_i he;refine⟨some a.block,?_,(lL h).symm⟩;unfold pV;rw[he];rfl
  ·cases h
 ·cases h
theorem QL {a b:Option Nat} (h:pD a=pD b):a=b:=by
 cases a with
 | none=>cases b with
  | none=>rfl
  | some b=>cases h
 | some a=>cases b with
  | none=>cases h
  | some b=>
   simp only[pD,DataW.lit.injEq,Lit.int.injEq,true_and]at h
   rw[Int.ofNat.inj h]
def jw (w:World) (b:Nat):Prop:=∃es c,w.heap[b]?=some (.map es c)
theorem jw.ne {w:World} {b x:Nat} {c:Array Value} {t:TypeId} {f:Nat×Nat} (h:jw w b) (hx:w.heap[x]?=some (.cells c t f)):x≠b:=by rintro rfl;obtain⟨es,c,h⟩:=h;rw[h]at hx;cases hx
theorem _root_.Go.Proofs.YtkmpfgpfbmeihaaGreatDoor.lib.Cs.rA {w w':World} {b:Nat} {a:Option Addr} {vs:List Value} (h:Cs w a vs) (hb:jw w b) (f:Fr [b] w w'):Cs w' a vs:=by
 rcases h with h|⟨g,o,rfl,h⟩
 ·exact .inl h
 ·refine .inr ⟨g,o,rfl,λj v hv=>?_⟩;have hc:=h j v hv;refine f.cell hc ?_;simp only[iQ];rintro rfl;obtain⟨es,c,hm⟩:=hb;simp[World.cell?,hm]at hc
theorem _root_.Go.Proofs.YtkmpfgpfbmeihaaGreatDoor.lib.Rd.rA {w w':World} {b:Nat} {a:Option Addr} {c:Nat} {bs:List UInt8} (h:lib.Rd w a c bs) (hb:jw w b) (f:Fr [b] w w'):lib.Rd w' a c bs:=⟨h.cs.rA hb f,h.le,h.max,h.nil⟩
theorem lv.rA {w w':World} {b:Nat} {a:Option Addr} {ms:List EM} (h:lv w a ms) (hb:jw w b) (f:Fr [b] w w'):lv w' a ms:=⟨h.cs.rA hb f,λm hm=>(h.dat m hm).rA hb f⟩
theorem Rb.rA {w w':World} {b g O S:Nat} {gv tv:Value} {la:Option Addr} {ms:List EM} {C D:Array Value} (h:Rb w g O S gv tv la ms C D) (hb:jw w b) (f:Fr [b] w w'):Rb w' g O S gv tv la ms C D:=
 ⟨f.ae h.box (by simp;exact hb.ne h.box),h.ents.rA hb f,f.ae h.ob (by simp;exact hb.ne h.ob),h.oc,f.ae h.sb (by simp;exact hb.ne h.sb),h.sc,h.gO,h.gS,h.OS,h.offl,h.offd,h.few⟩
theorem S1.rA {w w':World} {b O S:Nat} {C D:Array Value} {i:Nat} {s:St} (h:S1 w O S C D i s) (hb:jw w b) (f:Fr [b] w w'):S1 w' O S C D i s:=by
 match s,h with
 | none,h=>exact h
 | some (.error x),h=>exact h
 | some (.ok (o,d)),h=>obtain⟨h0,h1,h2,h3,ba,bc,h4,h5,h6,h7⟩:=h;exact⟨h0,h1,h2,h3,ba,bc,h4,h5.rA hb f,h6,h7⟩
theorem tL.rA {w w':World} {b O S:Nat} {C D:Array Value} {l:List eo} {W:List St} (h:tL w O S C D l W) (hb:jw w b) (f:Fr [b] w w'):tL w' O S C D l W:=
 ⟨h.len,λi s hs=>(h.st i s hs).rA hb f,h.base⟩
def Nd (k:Kn) (a:Option Addr) (c:Nat):Array Value:=#[.int .i64 k.kind,.slice a k.body.length c,.string (str k.id),.int .i64 0,.int .u32 0]
def KB (w:World) (O S p:Nat) (k:Kn):Prop:=p≠O/\p≠S/\∃a c,w.heap[p]?=some (.cells (Nd k a c) 34 (0,0))/\lib.Rd w a c k.body/\∀y∈ae a,y≠O/\y≠S
theorem KB.fr {w w':World} {O S p:Nat} {k:Kn} (h:KB w O S p k) (f:Fr [O,S] w w'):KB w' O S p k:=by obtain⟨h1,h2,a,c,h3,h4,h5⟩:=h;exact⟨h1,h2,a,c,f.ae h3 (by simp[h1,h2]),h4.gg f (λx hx=>by have:=h5 x hx;simp[this]),h5⟩
theorem KB.rA {w w':World} {b O S p:Nat} {k:Kn} (h:KB w O S p k) (hb:jw w b) (f:Fr [b] w w'):KB w' O S p k:=by obtain⟨h1,h2,a,c,h3,h4,h5⟩:=h;exact⟨h1,h2,a,c,f.ae h3 (by simp;exact hb.ne h3),h4.rA hb f,h5⟩
def KQ (w:World) (O S:Nat):Option Nat->Option Kn->Prop
 | none,none=>True
 | some p,some k=>KB w O S p k
 | _,_=>False
theorem KQ.map {w w':World} {O S:Nat} {q:Option Nat} {r:Option Kn} (h:KQ w O S q r) (m:∀p k,KB w O S p k->KB w' O S p k):KQ w' O S q r:=by
 match q,r,h with
 | none,none,_=>trivial
 | some p,some k,h=>exact m p k h
theorem Cu:Maps.Keyed Tryz.prog 9:=Maps.string_keyed Tryz.underlying9
def Told (w:World) (O S bt N:Nat) (kn:List Kn):Prop:=∃D n,n<=N/\w.ownsMap Tryz.prog 9 pR bt n D/\∀id,Maps.has D (.string id)=true->∃q,D.atKey (.string id) .nil=pD q/\KQ w O S q (jn kn id)
theorem FC {w w':World} {S:List Nat} {P:Program} {k:TypeId} {R:Value->Option (DataW Unit×List MemPlace)} {b n:Nat} {D:DataW Unit} (h:w.ownsMap P k R b n D) (f:Fr S w w') (hb:b∉S):w'.ownsMap P k R b n D:=by obtain⟨es,clock,h1,h2⟩:=h;exact⟨es,clock,f.ae h1 hb,h2⟩
theorem Told.at_ {w:World} {O S bt N:Nat} {kn:List Kn} (h:Told w O S bt N kn):jw w bt:=by obtain⟨D,n,_,⟨es,clock,h1,_⟩,_⟩:=h;exact⟨es,clock,h1⟩
theorem Told.fr {w w':World} {O S bt N:Nat} {kn:List Kn} (h:Told w O S bt N kn) (f:Fr [O,S] w w') (hO:bt≠O) (hS:bt≠S):Told w' O S bt N kn:=by obtain⟨D,n,h1,h2,h3⟩:=h;refine⟨D,n,h1,FC h2 f (by simp[hO,hS]),λid hi=>?_⟩;obtain⟨q,k1,k2⟩:=h3 id hi;exact⟨q,k1,k2.map λp k hk=>hk.fr f⟩
theorem Told.mono {w:World} {O S bt N N':Nat} {kn:List Kn} (h:Told w O S bt N kn) (hn:N<=N'):Told w O S bt N' kn:=by obtain⟨D,n,h1,h2,h3⟩:=h;exact⟨D,n,bS h1 hn,h2,h3⟩
theorem Told.put {w w':World} {O S bt n:Nat} {kn:List Kn} {D:DataW Unit} {id:List UInt8} {q:Option Nat} (hm:Maps.IsMap D) (h3:∀id,Maps.has D (.string id)=true->∃q,D.atKey (.string id) .nil=pD q/\KQ w O S q (jn kn id))
  (hb:jw w bt) (f:Fr [bt] w w') (h2:w'.ownsMap Tryz.prog 9 pR bt (n+1) (D.put (.string id) (pD q))) (hq:KQ w O S q (jn kn id)):Told w' O S bt (n+1) kn:=by
 refine⟨_,_,aw _,h2,λid' hi=>?_⟩;by_cases he:id'=id
 ·subst he;refine⟨q,Maps.atKey_put_same hm (by simp[WideAt.IsKeyLit]) _ _,hq.map λp k hk=>hk.rA hb f⟩
 ·have bR:Lit.string id'≠Lit.string id:=by simp[he]
  rw[Maps.has_put_other bR]at hi;obtain⟨q',k1,k2⟩:=h3 id' hi;exact⟨q',by rw[Maps.atKey_put_other bR];exact k1,k2.map λp k hk=>hk.rA hb f⟩
def Got (w:World) (kn:List Kn) (id:List UInt8) (e:Ending) (w':World):Prop:=Fr [] w w'/\match kn.find? λk=>k.id==id with
 | none=>e = .returned (.tuple #[.int .i64 0,.slice none 0 0,.bool false])
 | some k=>∃a c,e = .returned (.tuple #[.int .i64 k.kind,.slice a k.body.length c,.bool true])/\lib.Rd w' a c k.body/\(∀y∈ae a,w.heap.size<=y)/\k.body.length<=140737488355200
def jN (w:World) (T:List Nat) (gv:Value) (kn:List Kn):Prop:=
 (gv = .nilFunc/\kn=[])\/∃kW cv,gv = .func (.func kW) #[] cv/\(∀args w,(callFunc kW args).run Tryz.prog w = .ok (.enter kW args) w)/\∀id w',id.length<=40->Fr T w w'->Calls Tryz.prog kW (#[.string (str id)]++cv) w' (Got w' kn id)
theorem jN.fr {w w':World} {T:List Nat} {gv:Value} {kn:List Kn} (h:jN w T gv kn) (f:Fr T w w'):jN w' T gv kn:=by
 rcases h with h|⟨kW,cv,h1,h2,h3⟩
 ·exact .inl h
 ·exact .inr ⟨kW,cv,h1,h2,λid w2 hl f2=>h3 id w2 hl (f.trans f2)⟩
theorem zc7 {kn:List Kn} (h:kn.Pairwise λa b=>a.id≠b.id) (id:List UInt8):jn kn id=match kn.find? λk=>k.id==id with
  | none=>none
  | some k=>if pQ k.kind k.body=id then some k else none:=by
 unfold jn;induction kn with
 | nil=>rfl
 | cons k t ih=>
  rw[tV]at h;rw[Kd,Kd];by_cases he:k.id=id
  ·have e1:(k.id==id)=true:=by simpa using he
   rw[e1];by_cases ho:pQ k.kind k.body=id
   ·have e2:(pQ k.kind k.body==id)=true:=by simpa using ho
    rw[e2];simp[ho]
   ·have e2:(pQ k.kind k.body==id)=false:=by simpa using ho
    rw[e2];simp only[Bool.and_false,if_neg ho];rw[List.find?_eq_none];intro x hx;have:=h.1 x hx;simp;intro KW;exact absurd (he.trans KW.symm) this
  ·have e1:(k.id==id)=false:=by simpa using he
   rw[e1];simp only[J7];exact ih h.2
theorem Hs:Tryz.prog.underlying 94=some (.map 9 144):=by kernel_rfl
theorem Rq (w:World):(zeroValue 144).run Tryz.prog w = .ok (.pointer none) w:=by kernel_rfl
theorem zbl (w:World):(binOp .neq 57 .nilFunc .nilFunc).run Tryz.prog w = .ok (.bool false) w:=by kernel_rfl
theorem qyh (kW:FuncId) (cv:Array Value) (w:World):(binOp .neq 57 (.func (.func kW) #[] cv) .nilFunc).run Tryz.prog w = .ok (.bool true) w:=by kernel_rfl
def J2 (w:World) (O S bt N:Nat) (kn:List Kn) (id:List UInt8) (e:Ending) (w':World):Prop:=Fr [bt] w w'/\Told w' O S bt (N+1) kn/\∃q,e = .returned (pV q)/\KQ w' O S q (jn kn id)
theorem zbm (g O S bt N:Nat) (gv:Value) (la:Option Addr) (ms:List EM) (C D:Array Value) (kn:List Kn) (id:List UInt8) (w:World) (h:Rb w g O S gv (.map (some bt)) la ms C D) (ht:Told w O S bt N kn) (hg:jN w [O,S,bt] gv kn)
  (hd:kn.Pairwise λa b=>a.id≠b.id) (hN:N<=100000000) (hid:id.length<=40) (hp:obj.Pw w) :
  Calls Tryz.prog 81 #[.pointer (some ⟨g,0,none⟩),.string (str id)] w (J2 w O S bt N kn id):=by
 have b3:=cell_of h.box 3;have b4:=cell_of h.box 4;simp only[bw,aV,bN]at b3 b4;have eD:=ht.at_;have uN:=ht;obtain⟨D0,n,hn,aA,aE⟩:=ht;have qt:keyOf Tryz.prog 9 (.string (str id))=some (.string id):=by have:=WideMaps.keyOf_string_mk (P:=Tryz.prog) Tryz.underlying9 (s:=str id) (by rw[qtd];unfold maxLen;omega);exact this
 obtain⟨si,kQ⟩:=ah (str id);rw[<-kQ]at qt ⊢;have hO:=lt_of_block h.ob;have hS:=lt_of_block h.sb;have H:=rV h eD uN hn aA aE qt kQ hd hp hO hS;clear h eD uN hn aA aE qt kQ hO hS;by_cases hh:Maps.has D0 (.string id)=true
 ·obtain⟨q,hq,Gb⟩:=H.out.2.2.2.2.2.1 id hh;have HQ:=ak hq Gb;have HH:=af hh;clear hq Gb hd hp hg hh;cases q with
  | none=>
   go_enter Tryz.func81,Tryz.ntmps81;go_wp2_with (at_lookup;refine wpList_lookup_own_ok _ rfl _ _ 94 rfl 9 144 Cu Hs pR (Rq _) .nil [] rfl bt n D0 rfl H.out.2.2.2.2.1 _ (.string id) rfl H.out.2.2.2.2.2.2.1 ?_;intro v ps hv;rw[HH.out];obtain⟨q',rfl,uQ⟩:=QM hv;obtain rfl:q'=none:=QL ((congrArg Prod.fst uQ).symm.trans HQ.out.1);simp only[pV,Option.map_none];clear hv uQ);go_ret;exact⟨Fr.refl _ _,H.out.2.2.1.mono (by omega),none,rfl,HQ.out.2⟩
  | some p=>go_enter Tryz.func81,Tryz.ntmps81;go_wp2_with (at_lookup;refine wpList_lookup_own_ok _ rfl _ _ 94 rfl 9 144 Cu Hs pR (Rq _) .nil [] rfl bt n D0 rfl H.out.2.2.2.2.1 _ (.string id) rfl H.out.2.2.2.2.2.2.1 ?_;intro v ps hv;rw[HH.out];obtain⟨q',rfl,uQ⟩:=QM hv;obtain rfl:q'=some p:=QL ((congrArg Prod.fst uQ).symm.trans HQ.out.1);simp only[pV,CA];clear hv uQ);go_ret;exact⟨Fr.refl _ _,H.out.2.2.1.mono (by omega),some p,rfl,HQ.out.2⟩
 ·have hh':Maps.has D0 (.string id)=false:=by simpa using hh
  have HH:=af hh';clear hh hh' hd hp;rcases hg with⟨rfl,rfl⟩|⟨kW,cv,rfl,eg,bg⟩
  ·have Bq:=zbl;go_enter Tryz.func81,Tryz.ntmps81;go_wp2_with (at_lookup;refine wpList_lookup_own_ok _ rfl _ _ 94 rfl 9 144 Cu Hs pR (Rq _) .nil [] rfl bt n D0 rfl H.out.2.2.2.2.1 _ (.string id) rfl H.out.2.2.2.2.2.2.1 ?_;intro v ps hv;rw[HH.out];obtain⟨q',rfl,uQ⟩:=QM hv;obtain rfl:q'=none:=QL ((congrArg Prod.fst uQ).symm.trans (Maps.atKey_of_not_has HH.out _));simp only[pV,Option.map_none];clear hv uQ);go_ret;exact⟨Fr.refl _ _,H.out.2.2.1.mono (by omega),none,rfl,trivial⟩
  ·have Bq:=qyh kW cv;have HC:=af (bg id);rw[<-H.out.2.2.2.2.2.2.2.1]at HC;clear bg;go_enter Tryz.func81,Tryz.ntmps81;go_wp2_with (at_lookup;refine wpList_lookup_own_ok _ rfl _ _ 94 rfl 9 144 Cu Hs pR (Rq _) .nil [] rfl bt n D0 rfl H.out.2.2.2.2.1 _ (.string id) rfl H.out.2.2.2.2.2.2.1 ?_;intro v ps hv;rw[HH.out];obtain⟨q',rfl,uQ⟩:=QM hv;obtain rfl:q'=none:=QL ((congrArg Prod.fst uQ).symm.trans (Maps.atKey_of_not_has HH.out _));simp only[pV,Option.map_none];clear hv uQ);refine (HC.out w hid (Fr.refl _ _)).mono ?_;rintro e w1 ⟨f1,cU⟩;have hn:=H.out.2.2.2.1;have iH:=zc7 H.out.2.2.2.2.2.2.2.2.1 id;have pW:∀k,(kn.find? λk=>k.id==id)=some k->k.id=id:=λk hk=>by simpa using List.find?_some hk
   have b4:=f1.cell b4 (by simp);generalize (kn.find? λk=>k.id==id)=R at cU iH pW;have Gs:∀wz,Fr [] w wz->∀id,Maps.has D0 (.string id)=true->∃q,D0.atKey (.string id) .nil=pD q/\KQ wz O S q (jn kn id):=λwz fz id hi=>by obtain⟨q,k1,k2⟩:=H.out.2.2.2.2.2.1 id hi;exact⟨q,k1,k2.map λp k hk=>hk.fr (fz.mono (by simp))⟩
   have cC:∀(wz w4:World) (q:Option Nat),Fr [] w wz->KQ wz O S q (jn kn id)->w4.ownsMap Tryz.prog 9 pR bt (n+1) (D0.put (.string id) (pD q))->wz.grownBy w4 (some bt)->J2 w O S bt N kn id (.returned (pV q)) w4:=λwz w4 q fz hq ho hg=>by
    have eD:jw wz bt:=by obtain⟨es,c,hm⟩:=H.out.2.1;exact⟨es,c,fz.ae hm (by simp)⟩
    have f4:Fr [bt] wz w4:=(Fr.refl [bt] wz).grown hg (λk e=>.inl (by simp only[eS]at e;simp[e]));exact⟨(fz.mono (by simp)).trans f4,(Told.put (H.out.2.2.2.2.1.isMap) (Gs wz fz) eD f4 ho hq).mono (by omega),q,rfl,hq.map λp k hk=>hk.rA eD f4⟩
   have HF:=af cC;clear cC Gs Bq;match R,cU,iH,pW with
   | none,cU,iH,_=>
    subst cU;have HO:=af (FC H.out.2.2.2.2.1 f1 (by simp));have HZ:=ak f1 iH;clear f1 iH b3 pW;go_wp2_with ((at_mapUpdate;refine wpList_mapUpdate_own _ rfl _ _ _ 94 rfl 9 144 Cu Hs pR bt n D0 rfl HO.out (by unfold maxLen;omega) _ _ (.string id) rfl rfl H.out.2.2.2.2.2.2.1 (pD none) [] (Tr none) ?_;intro w4 lD Gf;have H4:=ak lD Gf;clear lD Gf));go_ret;exact HF.out w1 w4 none HZ.out.1 (by rw[HZ.out.2];trivial) H4.o0 H4.l1
   | some k,cU,iH,pW=>
    obtain⟨ka,kc,rfl,rd,new,hlen⟩:=cU;have Bk:=pW k rfl;have wW:=obj.QO k.kind ka kc k.body w1 rd hlen (H.out.2.2.2.2.2.2.2.2.2.1.fr f1);obtain⟨bl,bK⟩:=ah k.body.length;obtain⟨sj,A7⟩:=ah (str (pQ k.kind k.body));obtain⟨kd,mE⟩:=ah k.kind;rw[<-A7]at wW;rw[<-bK,<-mE]at wW ⊢;by_cases ho:pQ k.kind k.body=id
    ·have gs:(sj.toList==si.toList)=true:=by rw[A7,H.out.2.2.2.2.2.2.2.1,ho];exact beq_self_eq_true _
     have HZ:=oG f1 iH wW rd new Bk bK mE ho;clear f1 iH b3 pW wW rd new hlen Bk bK A7 mE ho;go_upto_region 6 with (go_at_call 63;refine HZ.out.2.2.1.mono ?_;rintro e w2 ⟨rfl,f2⟩;have H2:=af f2;clear f2);clear gs;obtain⟨w3,gN⟩:=ah (w2.alloc (Obj.cells #[.int .i64 kd,.slice ka bl kc,.string si,.int .i64 0,.int .u32 0] 34));obtain⟨p,hp⟩:=ah w2.heap.size;rw[<-gN,<-hp];have f3:Fr [] w2 w3:=by rw[gN];exact (Fr.refl [] w2).alloc _
     have jd:w3.heap[p]?=some (.cells #[.int .i64 kd,.slice ka bl kc,.string si,.int .i64 0,.int .u32 0] 34 (0,0)):=by rw[gN,hp];exact bx w2 _
     have b4:=(H2.out.trans f3).cell b4 (by simp);have fz:=HZ.out.1.trans (H2.out.trans f3);have HO:=af (FC H.out.2.2.2.2.1 fz (by simp));have XF:KB w3 O S p k:=by
      obtain⟨f1,iH,wW,rd,new,Bk,bK,mE,ho⟩:=HZ.out;have s1:=f1.size;have s2:=H2.out.size;have sO:=H.out.2.2.2.2.2.2.2.2.2.2.1;have sS:=H.out.2.2.2.2.2.2.2.2.2.2.2;refine⟨by omega,by omega,ka,kc,?_,rd.fr (H2.out.trans f3),λy hy=>?_⟩
      ·rw[jd];unfold Nd;rw[<-bK,<-mE,Bk,H.out.2.2.2.2.2.2.2.1]
      ·have:=new y hy;exact⟨by omega,by omega⟩
     have hq:KQ w3 O S (some p) (jn kn id):=by rw[HZ.out.2.1];simp only[if_pos HZ.out.2.2.2.2.2.2.2.2];exact XF
     have HQ:=ak fz hq;clear fz hq XF jd f3 gN hp;go_wp2_with ((at_mapUpdate;refine wpList_mapUpdate_own _ rfl _ _ _ 94 rfl 9 144 Cu Hs pR bt n D0 rfl HO.out (by unfold maxLen;omega) _ _ (.string id) rfl rfl H.out.2.2.2.2.2.2.1 (pD (some p)) [] (Tr (some p)) ?_;intro w4 lD Gf;have H4:=ak lD Gf;clear lD Gf));go_ret;exact HF.out w3 w4 (some p) HQ.out.1 HQ.out.2 H4.o0 H4.l1
    ·have gs:(sj.toList==si.toList)=false:=by rw[A7,H.out.2.2.2.2.2.2.2.1,bu,bu];simpa using ho
     have HZ:=aF f1 iH wW ho;clear f1 iH b3 pW wW rd new hlen Bk bK A7 mE ho;go_upto_region 6 with (go_at_call 63;refine HZ.out.2.2.1.mono ?_;rintro e w2 ⟨rfl,f2⟩;have H2:=af f2;clear f2);clear gs;have b4:=H2.out.cell b4 (by simp);have fz:=HZ.out.1.trans H2.out;have HO:=af (FC H.out.2.2.2.2.1 fz (by simp));have hq:KQ w2 O S none (jn kn id):=by rw[HZ.out.2.1];simp only[if_neg HZ.out.2.2.2];trivial
     have HQ:=ak fz hq;clear fz hq;go_wp2_with ((at_mapUpdate;refine wpList_mapUpdate_own _ rfl _ _ _ 94 rfl 9 144 Cu Hs pR bt n D0 rfl HO.out (by unfold maxLen;omega) _ _ (.string id) rfl rfl H.out.2.2.2.2.2.2.1 (pD none) [] (Tr none) ?_;intro w4 lD Gf;have H4:=ak lD Gf;clear lD Gf));go_ret;exact HF.out w2 w4 none HQ.out.1 HQ.out.2 H4.o0 H4.l1
theorem V5:∀W:List St,bG W=((List.range W.length).map λi=>(match W[i]? with|some none=>1|_=>0)).sum
 | []=>rfl
 | none::t=>by
  rw[bG,V5 t,cQ,List.range_succ_eq_map,gW,xC,Dr];simp only[aV,Function.comp_def,bN];omega
 | some x::t=>by rw[bG,V5 t,cQ,List.range_succ_eq_map,gW,xC,Dr];simp only[aV,Function.comp_def,bN];omega
def LM (w:World) (S c o i:Nat):Nat:=match w.cell? ⟨S,i*c+o,none⟩ with
 | some (.bool false)=>1
 | _=>0
def yD (w:World) (S c n:Nat):Nat:=((List.range n).map (LM w S c 0)).sum
theorem zc3 {w:World} {S c n:Nat} {W:List St} (hl:W.length=n) (h:∀i s,W[i]?=some s->w.cell? ⟨S,i*c,none⟩=some (.bool s.isSome)):yD w S c n=bG W:=by
 rw[V5,hl];unfold yD;congr 1;refine CD λi hi=>?_
 have iK:i<W.length:=by simp at hi;omega
 have:=h i _ (bO iK);rw[bO iK];unfold LM;rw[jS,this];cases W[i] with
 | none=>rfl
 | some x=>rfl
theorem S1.done {w:World} {O S:Nat} {C D:Array Value} {i:Nat} {s:St} (h:S1 w O S C D i s):D[i*4]?=some (.bool s.isSome):=by
 match s,h with
 | none,h=>exact h.1
 | some (.error x),h=>exact h.1
 | some (.ok (o,d)),h=>exact h.1
theorem tL.yD {w:World} {O S:Nat} {C D:Array Value} {l:List eo} {W:List St} (h:tL w O S C D l W) (hb:w.heap[S]?=some (.cells D 100 (0,0))):yD w S 4 l.length=bG W:=
 zc3 h.len λi s hs=>by rw[cell_of hb];exact (h.st i s hs).done
theorem qs2 (l:List eo) (i:Nat) (x:eo):∃sb ok,(∀w:World,(Instr.typeAssert (iO l i x) 98 124 true).run Tryz.prog w = .ok (.tuple #[.string sb,.bool ok]) w)/\((ok=true/\x.kind=7/\sb=str x.base)\/(ok=false/\x.kind≠7)):=by
 unfold iO;by_cases h6:x.kind=6
 ·rw[if_pos h6];exact⟨⟨#[]⟩,false,λ_=>by kernel_rfl,.inr ⟨rfl,by omega⟩⟩
 ·rw[if_neg h6];by_cases h7:x.kind=7
  ·rw[if_pos h7];exact⟨str x.base,true,λ_=>by kernel_rfl,.inl ⟨rfl,h7,rfl⟩⟩
  ·rw[if_neg h7];exact⟨⟨#[]⟩,false,λ_=>by kernel_rfl,.inr ⟨rfl,h7⟩⟩
theorem KQ.no {w:World} {O S:Nat} {q:Option Nat} (h:KQ w O S q none):q=none:=by
 cases q with
 | none=>rfl
 | some p=>exact h.elim
theorem KQ.yes {w:World} {O S:Nat} {q:Option Nat} {k:Kn} (h:KQ w O S q (some k)):∃p,q=some p/\KB w O S p k:=by
 cases q with
 | none=>exact h.elim
 | some p=>exact⟨p,rfl,h⟩
def Qw (w:World) (g O S bt N:Nat) (gv:Value) (la:Option Addr) (ms:List EM) (kn:List Kn) (R:Option (List St)) (e:Ending) (w':World):Prop:=
 Told w' O S bt (N+ms.length) kn/\match R with
 | none=>e = .returned (.bool false)/\Fr [bt] w w'
 | some W2=>e = .returned (.bool true)/\Fr [O,S,bt] w w'/\∃C' D',Rb w' g O S gv (.map (some bt)) la ms C' D'/\tL w' O S C' D' (ms.map (·.1)) W2
theorem zel (g O S bt N:Nat) (gv:Value) (la:Option Addr) (ms:List EM) (C D:Array Value) (kn:List Kn) (W:List St) (w:World) (h:Rb w g O S gv (.map (some bt)) la ms C D) (hs:tL w O S C D (ms.map (·.1)) W) (ht:Told w O S bt N kn) (hg:jN w [O,S,bt] gv kn)
  (hd:kn.Pairwise λa b=>a.id≠b.id) (hN:N<=50000000) (hb:∀m∈ms,m.1.base.length<=40) (hp:∀w',Fr [O,S,bt] w w'->obj.Pw w') :
  Calls Tryz.prog 49 #[.pointer (some ⟨g,0,none⟩)] w (Qw w g O S bt N gv la ms kn (ask (ms.map (·.1)) kn ms.length 0 W)):=by
 obtain⟨n,hn⟩:=ah ms.length;have lW:n<=4096:=by rw[hn];exact h.few
 have b0:=cell_of h.box 0;simp only[bw,aV,bN]at b0;rw[<-hn]at b0;obtain⟨R,hR⟩:=ah (ask (ms.map (·.1)) kn n 0 W);rw[<-hn,<-hR];have eD:=ht.at_;have H:=lJ h hs hn hg hd hb hp eD;have HT0:=ak ht hR;clear h hs ht hg hd hb hp hR eD hn;go_enter Tryz.func49,Tryz.ntmps49;go_wp2;go_loopg [12] n (λk s12 wr=>∃i:Nat,s12 = .int .i64 (i:Nat)/\i+k=n/\Fr [bt] w wr/\Told wr O S bt (N+i) kn/\R=ask (ms.map (·.1)) kn k i W);case atStart=>exact⟨0,rfl,by omega,Fr.refl _ _,HT0.o0,HT0.l1⟩
 case round=>
  clear b0;obtain⟨i,rfl,bU,hf,K7,vS⟩:=hrel;by_cases hi:i<n
  ·obtain⟨k,rfl⟩:∃k,gk=k+1:=⟨gk-1,by omega⟩;obtain⟨hR0,kF,hn,hg,hd,hb,hp,eD⟩:=H.out;obtain⟨m,hm⟩:∃m,ms[i]?=some m:=⟨ms[i]'(by omega),bO _⟩;have hl:(ms.map (·.1))[i]?=some m.1:=by rw[j5,hm];rfl
   obtain⟨s,hW⟩:∃s,W[i]?=some s:=⟨W[i]'(by rw[kF.len,cN];omega),bO _⟩;have Pe:=hR0.rA eD hf;have az:=kF.rA eD hf;have b2:=cell_of Pe.box 2;simp only[bw,aV,bN]at b2;rw[<-hn]at b2;have lH:=az.base i m.1 hl;obtain⟨sb,ok,xP,jz⟩:=qs2 (ms.map (·.1)) i m.1;obtain⟨bV,yf⟩:=ah (iO (ms.map (·.1)) i m.1);rw[<-yf]at xP lH;have y3:wr.cell? ⟨S,i*4+3,none⟩=some bV:=by rw[cell_of Pe.sb];exact lH
   have y0:wr.cell? ⟨S,i*4,none⟩=some (.bool s.isSome):=by rw[cell_of Pe.sb];exact (az.st i s hW).done
   rw[ask,hl,hW]at vS;have HR:=cz Pe az hm hW hf K7 vS;clear hR0 kF hn hg hd hb hp eD hl Pe az lH yf hf K7 vS hm;cases s with
   | some t=>
    simp only[Option.isSome_some]at y0;clear jz hW;go_wp2;clear y0 y3 b2 xP;go_roundg k;case measure=>omega
    case rel=>exact⟨i+1,rfl,by omega,HR.l2.2.2.1,HR.l2.2.2.2.1.mono (by omega),HR.l2.2.2.2.2⟩
   | none=>
    simp only[Option.isSome_none]at y0;have vS:=HR.l2.2.2.2.2;simp only at vS;rcases jz with⟨rfl,h7,rfl⟩|⟨rfl,h7⟩
    ·rw[if_pos h7]at vS;have qy:=zbm g O S bt (N+i) gv la ms C D kn m.1.base wr HR.o0 HR.l2.2.2.2.1 (H.out.2.2.2.1.fr (HR.l2.2.2.1.mono (by simp))) H.out.2.2.2.2.1 (by omega) (H.out.2.2.2.2.2.1 m (iC HR.l2.1)) (H.out.2.2.2.2.2.2.1 _ (HR.l2.2.2.1.mono (by simp)));obtain⟨sb,kR⟩:=ah (str m.1.base);rw[<-kR]at qy xP;unfold J2 at qy;generalize jn kn m.1.base=KR at vS qy;cases KR with
     | none=>
      have HX:=ak vS qy;clear vS qy kR h7 hW;go_wp2_with (go_at_call 81;refine HX.l1.mono ?_;rintro e w2 ⟨f2,t2,q,rfl,kq⟩;obtain rfl:=kq.no;have H2:=ak f2 t2;clear f2 t2 kq;simp only[pV,Option.map_none]);clear y0 y3 b2 xP;go_roundg k;case measure=>omega
      case rel=>exact⟨i+1,rfl,by omega,HR.l2.2.2.1.trans H2.out.1,H2.out.2,HX.o0⟩
     | some kk=>
      have HX:=ak vS qy;clear vS qy kR h7 hW;go_upto_region 7 with (go_at_call 81;refine HX.l1.mono ?_;rintro e w2 ⟨f2,t2,q,rfl,kq⟩;obtain⟨p,rfl,kb⟩:=kq.yes;have H2:=au f2 t2 kb;clear f2 t2 kb kq;simp only[pV,CA]);clear y0 y3 b2 xP;obtain⟨pO,pS,a,c,bT,bP,kG⟩:=H2.out.2.2;have k0:w2.cell? ⟨p,0,none⟩=some (.int .i64 kk.kind):=by rw[cell_of bT];rfl
      have k1:w2.cell? ⟨p,1,none⟩=some (.slice a kk.body.length c):=by rw[cell_of bT];rfl
      have mZ:=(HR.o0.rA HR.l2.2.2.2.1.at_ H2.out.1).fr (Fr.av [] w2);have mS:=HR.o1.rA HR.l2.2.2.2.1.at_ H2.out.1;have cC:Calls Tryz.prog 80 #[.pointer (some ⟨g,0,none⟩),.int .i64 i,.int .i64 kk.kind,.slice a kk.body.length c,.int .i64 1] w2.drew _:=
       VH g O S gv (.map (some bt)) la ms C D i m kk.kind a c kk.body 0 w2.drew mZ HR.l2.1 (bP.fr (Fr.av [] w2)) kG (by omega) (H.out.2.2.2.2.2.2.1 _ (((HR.l2.2.2.1.trans H2.out.1).mono (by simp)).trans (Fr.av _ w2))) (HR.o1.st i none HR.l2.2.1).2
        (λw' f=>H.out.2.2.2.2.2.2.1 _ ((((HR.l2.2.2.1.trans H2.out.1).mono (by simp)).trans (Fr.av _ w2)).trans (f.mono (λy hy=>.inl (by simp at hy;rcases hy with rfl|rfl<;>simp)))))
      obtain⟨kl,qs⟩:=ah kk.body.length;obtain⟨kd,mE⟩:=ah kk.kind;rw[<-qs,<-mE]at cC;rw[<-qs]at k1;rw[<-mE]at k0;have HY:=aF cC mZ mS mE;clear cC mZ mS qs mE bT bP kG pO pS;go_upto_region 8 with fail;refine uw 10 (by kernel_rfl) (by kernel_rfl) ?_;simp only[uj];repeat (go_big_quiet_step (fail))
      refine wpQuiet_nil ?_;clear k0 k1;go_wp2_with (go_at_call 80;refine HY.out.1.mono ?_;rintro e w3 ⟨rfl,f3,C3,D3,ru,ED⟩;have H3:=au f3 ru ED;clear f3 ru ED);go_ret;obtain⟨f3,ru,ED⟩:=H3.out;obtain⟨cC,mZ,mS,mE⟩:=HY.out;rw[mE]at ED;have O9:=H2.out.2.1.at_;have SQ:bt≠O:=jg (O9.ne (show w2.heap[O]?=_ from mZ.ob));have hbS:bt≠S:=jg (O9.ne (show w2.heap[S]?=_ from mZ.sb));have fT:Fr [O,S] w2 w3:=((Fr.av [] w2).mono (by simp)).trans f3;refine⟨(H2.out.2.1.fr fT SQ hbS).mono (by have:=H.out.2.2.1;omega),?_⟩;rw[HX.o0];exact⟨rfl,((HR.l2.2.2.1.trans H2.out.1).mono (by simp)).trans (fT.mono (λy hy=>.inl (by simp at hy;rcases hy with rfl|rfl<;>simp))),C3,D3,ru,mS.one i _ ED.1 ED.2.1 fT (ED.st (lt_of_block mZ.ob) (lt_of_block mZ.sb))⟩
    ·rw[if_neg h7]at vS;have HRi:=af vS;clear vS h7 hW;go_wp2;clear y0 y3 b2 xP;go_roundg k;case measure=>omega
     case rel=>exact⟨i+1,rfl,by omega,HR.l2.2.2.1,HR.l2.2.2.2.1.mono (by omega),HRi.out⟩
  ·obtain rfl:i=n:=by omega
   obtain rfl:gk=0:=by omega
   have HR:=au hf K7 vS;clear hf K7 vS;go_wp2;go_ret;refine⟨?_,?_⟩
   ·rw[<-H.out.2.2.1];exact HR.o1
   ·rw[HR.l2];exact⟨rfl,HR.o0⟩
theorem zbd:(Tryz.prog.info? 34).map (λi=>(i.zero,i.size,i.bytes))=some (some (.agg #[.int .i64 0,.slice none 0 0,.string ⟨#[]⟩,.int .i64 0,.int .u32 0]),5,64):=by kernel_rfl
theorem qu8:(Tryz.prog.info? 100).map (λi=>(i.zero,i.size,i.bytes))=some (some (.agg #[.bool false,.int .i64 0,.int .i64 0,.nilIface]),4,40):=by kernel_rfl
theorem zdz (z:Array Value) (n j:Nat) (h:j<n):(madeCells z n)[j]?=some (z[j%z.size]!):=by rw[xG (by rw[size_madeCells];exact h)];simp[madeCells]
theorem qxl (n:Nat) (h:n<=1000000):∃Z:Array Value,Z.size=n*5/\∀w:World,(Instr.makeSlice 27 (.int .i64 (n:Nat)) (.int .i64 (n:Nat))).run Tryz.prog w = .ok (.slice (some ⟨w.heap.size,0,none⟩) n n) (w.alloc (.cells Z 34)):=by obtain⟨i,hi,hz,hs,hb⟩:=info_parts zbd;refine⟨madeCells (Value.agg #[.int .i64 0,.slice none 0 0,.string ⟨#[]⟩,.int .i64 0,.int .u32 0]).cells (n*5),size_madeCells _ _,λw=>?_⟩;have:=run_make (P:=Tryz.prog) w 27 34 i _ Tryz.underlying27 hi hz .i64 .i64 (n:Nat) (n:Nat) (by omega) (Int.le_refl _) (by rw[hb];omega) (by omega);rw[hs,Cy]at this;exact this
theorem qsj (n:Nat) (h:n<=1000000):∃Z:Array Value,Z.size=n*4/\(∀t,t<n->Z[t*4]?=some (.bool false)/\Z[t*4+1]?=some (.int .i64 0)/\Z[t*4+3]?=some .nilIface)/\(∀t,t<n->Z[t*4+2]?=some (.int .i64 0))/\∀w:World,(Instr.makeSlice 93 (.int .i64 (n:Nat)) (.int .i64 (n:Nat))).run Tryz.prog w = .ok (.slice (some ⟨w.heap.size,0,none⟩) n n) (w.alloc (.cells Z 100)):=by
 obtain⟨i,hi,hz,hs,hb⟩:=info_parts qu8;have key:∀t k:Nat,t<n->k<4->(madeCells (Value.agg #[.bool false,.int .i64 0,.int .i64 0,.nilIface]).cells (n*4))[t*4+k]?=some ((#[.bool false,.int .i64 0,.int .i64 0,.nilIface]:Array Value)[k]!):=λt k ht hk=>by
  rw[zdz _ _ _ (by omega)];have e:(t*4+k)%(Value.agg #[.bool false,.int .i64 0,.int .i64 0,.nilIface]).cells.size=k:=by show (t*4+k)%4=k;omega
  rw[e];rfl
 refine⟨madeCells (Value.agg #[.bool false,.int .i64 0,.int .i64 0,.nilIface]).cells (n*4),size_madeCells _ _,λt ht=>⟨?_,?_,?_⟩,λt ht=>?_,λw=>?_⟩
 ·have:=key t 0 ht (by decide);rw[jS]at this;exact this
 ·exact key t 1 ht (by decide)
 ·exact key t 3 ht (by decide)
 ·exact key t 2 ht (by decide)
 ·have:=run_make (P:=Tryz.prog) w 93 100 i _ Tryz.underlying93 hi hz .i64 .i64 (n:Nat) (n:Nat) (by omega) (Int.le_refl _) (by rw[hb];omega) (by omega);rw[hs,Cy]at this;exact this
theorem xL {w W:World} {o1 o2 o3 o4:Go.Obj} (hh:W.heap=(((w.heap.push o1).push o2).push o3).push o4) (h1:W.os=w.os) (h2:W.tape=w.tape) (h3:W.output=w.output) :
  W.heap[w.heap.size]?=some o1/\W.heap[w.heap.size+1]?=some o2/\W.heap[w.heap.size+1+1]?=some o3/\W.heap[w.heap.size+1+1+1]?=some o4/\Fr [] w W:=by
 refine⟨?_,?_,?_,?_,h1,h2,h3,?_,λk hk _=>?_⟩
 ·rw[hh];simp only[LV,Array.size_push];rw[if_neg (by omega),if_neg (by omega),if_neg (by omega),if_pos trivial]
 ·rw[hh];simp only[LV,Array.size_push];rw[if_neg (by omega),if_neg (by omega),if_pos trivial]
 ·rw[hh];simp only[LV,Array.size_push];rw[if_neg (by omega),if_pos trivial]
 ·rw[hh];simp only[LV,Array.size_push];rw[if_pos trivial]
 ·rw[hh];simp;omega
 ·rw[hh];simp only[LV,Array.size_push];rw[if_neg (by omega),if_neg (by omega),if_neg (by omega),if_neg (by omega)]
theorem AQ (w:World) (o1 o2 o3 o4:Go.Obj):((((w.alloc o1).alloc o2).alloc o3).alloc o4).drew.heap[w.heap.size]?=some o1:=(xL (w:=w) (W:=((((w.alloc o1).alloc o2).alloc o3).alloc o4).drew) rfl rfl rfl rfl).1
theorem AP (w:World) (o1 o2 o3 o4:Go.Obj):((((w.alloc o1).alloc o2).alloc o3).alloc o4).drew.heap[w.heap.size+1]?=some o2:=(xL (w:=w) (W:=((((w.alloc o1).alloc o2).alloc o3).alloc o4).drew) rfl rfl rfl rfl).2.1
theorem AO (w:World) (o1 o2 o3 o4:Go.Obj):((((w.alloc o1).alloc o2).alloc o3).alloc o4).drew.heap[w.heap.size+1+1]?=some o3:=(xL (w:=w) (W:=((((w.alloc o1).alloc o2).alloc o3).alloc o4).drew) rfl rfl rfl rfl).2.2.1
theorem AL (w:World) (o1 o2 o3 o4:Go.Obj):((((w.alloc o1).alloc o2).alloc o3).alloc o4).drew.heap[w.heap.size+1+1+1]?=some o4:=(xL (w:=w) (W:=((((w.alloc o1).alloc o2).alloc o3).alloc o4).drew) rfl rfl rfl rfl).2.2.2.1
open huf
theorem MO (aJ:List OM):(aJ.flatMap oL).length=aJ.length*5:=UI oL 5 (λ_=>rfl) aJ
theorem qux (aJ:List OM):∀u∈aJ.flatMap oL,u.oneCell'=true:=by intro u hu;obtain⟨m,_,h⟩:=List.mem_flatMap.1 hu;exact ZT m u h
structure jM (w:World) (a:Option Addr) (c:Nat) (aJ:List OM):Prop where
 cs:Cs w a (aJ.flatMap oL)
 le:aJ.length<=c
 max:c<=maxLen
 nil:a=none->c=0
 rd:∀m∈aJ,lib.Rd w m.2.1 m.2.2 m.1.body
theorem jM.fr {w w':World} {a:Option Addr} {c:Nat} {aJ:List OM} (h:jM w a c aJ) (f:Fr [] w w'):jM w' a c aJ:=⟨h.cs.fr f (by simp),h.le,h.max,h.nil,λm hm=>(h.rd m hm).fr f⟩
theorem jM.cell {w:World} {a:Option Addr} {c:Nat} {aJ:List OM} (h:jM w a c aJ) {i:Nat} {m:OM} (hi:aJ[i]?=some m):∃g o,a=some ⟨g,o,none⟩/\∀j v,(dG m.1 m.2.1 m.2.2)[j]?=some v->w.cell? ⟨g,o+i*5+j,none⟩=some v:=by have hl:=(lA.1 hi).1;obtain⟨g,o,ha,hc⟩:=h.cs.at (by rw[MO];omega);refine⟨g,o,ha,λj v hv=>?_⟩;have hj:j<5:=(FE.1 hv).1;rw[uy];refine hc _ v ?_;rw[Hj oL 5 (λ_=>rfl) aJ i m j hi hj];unfold oL;rw[qW];exact hv
def Da (o:Obj):Prop:=obj.ef o.kind≠[]/\o.body.length<=65536/\pQ o.kind o.body=o.id
theorem zei (ao:Option Addr) (cap:Nat) (aJ:List OM) (w:World) (h:jM w ao cap aJ) (wU:aJ.length<=1000000) :
  Calls Tryz.prog 60 #[.slice ao aJ.length cap] w λe w'=>∃a2 c2,e = .returned (.slice a2 aJ.length c2)/\Made w w' 34 5 a2 aJ.length c2 (aJ.flatMap oL):=by
 have qT:∀(w:World) (a:Option Addr) (n c n' c':Nat),(binOp .eql 27 (.slice a n c) (.slice none n' c')).run Tryz.prog w = .ok (.bool a.isNone) w:=λw a n c n' c'=>Lib.run_eql_slice_nil w _ _ a n c n' c' Tryz.underlying27
 have hcs:=h.cs;have hle:=h.le;have bY:=h.nil;cases ao with
 | none=>
  have h0:=bY rfl;obtain rfl:aJ=[]:=wk (by omega);go_enter Tryz.func60,Tryz.ntmps60;go_wp2;go_ret;exact⟨none,0,rfl,Made.none _ _ _⟩
 | some a=>go_enter Tryz.func60,Tryz.ntmps60;go_wp2_with (refine iq qwd rfl _ _ rfl (.slice (some ⟨w.heap.size,0,none⟩) 0 0) 0 [] [w.heap.size] rfl rfl ⟨rfl,.inr ⟨w.heap.size,0,#[],rfl,dZ _,bx _ _,aw _,dZ _,rfl,rfl⟩⟩ (some a) aJ.length cap (aJ.flatMap oL) rfl hle bY (hcs.fr ((Fr.refl [] w).alloc _) (by simp)) (MO aJ) (qux aJ) (by omega) (by unfold maxLen;omega) ?_;intro lq fX w1 A1;simp only[fM,vI]at A1);go_ret;have fk:Fr [] w w1:=((Fr.refl [] w).alloc _).step A1.fr (by simp);refine⟨lq,fX,rfl,A1.own,fk,λx hx=>?_,A1.le,A1.max,A1.nil⟩;have:=A1.at_ x hx;simp at this;omega
theorem qry (m:OM) (w:World) (h:Da m.1) (hr:lib.Rd w m.2.1 m.2.2 m.1.body) (hp:obj.Pw w) :
  Calls Tryz.prog 61 #[.agg (dG m.1 m.2.1 m.2.2)] w λe w'=>e = .returned (.bool false)/\Fr [] w w':=by
 obtain⟨⟨kd,bs,id,at_,crc⟩,ba,bc⟩:=m;simp only at h hr;obtain⟨h1,h2,h3⟩:=h;simp only at h1 h2 h3;simp only[dG];have hid:=λw' (f:Fr [] w w')=>obj.QO kd ba bc bs w' (hr.fr f) (by omega) (hp.fr f)
 rw[h3]at hid;obtain⟨bl,bK⟩:=ah bs.length;rw[<-bK]at hid h2 ⊢;obtain⟨si,kQ⟩:=ah (str id);rw[<-kQ]at hid ⊢;obtain⟨sn,xQ⟩:=ah (str (obj.ef kd));have IP:=λw'=>obj.U3 kd w'
 rw[<-xQ]at IP;have bR:sn.toList≠[]:=by rw[xQ,bu];exact h1
 have gn:(sn.toList==[])=false:=by simpa using bR
 have YT:(sn.toList==(⟨#[]⟩:ByteArray).toList)=false:=by rw[show (⟨#[]⟩:ByteArray).toList=[] from by rw[ByteArray.toList_eq]];exact gn
 have YS:sn.toList.isEmpty=false:=by simpa using bR
 have gl:decide ((65536:Int)<(bl:Int))=false:=by simp;omega
 have H:=ak hid IP;clear hid IP h1 h3 xQ kQ bK hr hp bR;go_enter Tryz.func61,Tryz.ntmps61;go_upto_region 1 with fail;generalize cD:World.alloc _ _=w1;obtain⟨X,hX⟩:=ah w.heap.size;rw[<-hX];have dT:w1.heap[X]?=some (.cells #[.int .i64 kd,.slice ba bl bc,.string si,.int .i64 at_,.int .u32 crc] 34 (0,0)):=by rw[<-cD,hX];exact bx w _
 have f1:Fr [] w w1:=by rw[<-cD];exact (Fr.refl [] w).alloc _
 have H1:=ak dT f1;clear cD hX f1;have x0:=cell_of dT 0;have x1:=cell_of dT 1;have x2:=cell_of dT 2;simp only[bw,aV,bN]at x0 x1 x2;clear dT;have y0:=λx=>(dk [] w1.drew x).cell (show w1.drew.cell? _=_ from x0) (by simp)
 refine jh 21 [(false,0),(false,1),(true,2),(false,3),(false,4),(false,5),(false,6),(false,7),(false,8),(false,9),(false,10),(false,11),(false,12),(false,13),(false,14),(false,16),(false,17),(true,15),(false,18),(false,19),(false,20)] [] (by kernel_rfl) (by kernel_rfl) (λ_ _ d _ _ h=>by cases d<;>exact h) ?_;simp only[iw];refine cS 2 rfl ?_;simp only[aU];repeat (go_big_quiet_step (fail))
 refine wpQuiet_nil ?_;clear y0;refine ep rfl ?_;intro XX vd;go_wp2_with (go_at_call 62;refine (H.l1 _).mono ?_;rintro e w2 ⟨rfl,f2⟩);refine vd.out _ _ f2 ?_;clear vd XX;have H2:=af ((Fr.av [] w1).trans f2);clear f2;have y0:=λx=>(dk [] w2 x).cell (H2.out.cell x0 (by simp)) (by simp)
 have y1:=λx=>(dk [] w2 x).cell (H2.out.cell x1 (by simp)) (by simp)
 have y2:=λx=>(dk [] w2 x).cell (H2.out.cell x2 (by simp)) (by simp)
 refine cS 14 rfl ?_;simp only[aU];repeat (go_big_quiet_step (fail))
 refine wpQuiet_nil ?_;clear y0 y1 y2 x0 x1 x2;refine ep rfl ?_;intro XX vd;go_wp2_with (go_at_call 63;refine (H.o0 _ (H1.l1.trans H2.out)).mono ?_;rintro e w3 ⟨rfl,f3⟩);refine vd.out _ _ f3 ?_;clear vd XX;have H3:=af f3;clear f3;refine cS 3 rfl ?_;simp only[aU];repeat (go_big_quiet_step (fail))
 refine wpQuiet_nil ?_;refine fE ?_;go_wp2;go_ret;exact⟨rfl,(H1.l1.trans H2.out).trans H3.out⟩
end pk
end Go.Proofs.YtkmpfgpfbmeihaaGreatDoor
namespace Go.Proofs
open Go.Shelf
def Tryz.lays106_ren:Go.Shelf.Ren:=⟨fun|106=>41|213=>72|265=>109|n=>n,fun|9=>9|3=>3|n=>n,fun|n=>n⟩
theorem Tryz.lays106:Go.Proofs.Lays.n106 Tryz.prog Tryz.lays106_ren:={
 mixed:=by kernel_rfl
 f106:=Tryz.func41.trans (congrArg some (by kernel_rfl))
 f213:=Tryz.func72.trans (congrArg some (by kernel_rfl))
 f265:=Tryz.func109.trans (congrArg some (by kernel_rfl))
 t3:=Tryz.underlying3
 a3:=Tryz.isAgg3
 z3:=Tryz.sizeOf3
 v3:=Tryz.zeroValue3
 t9:=Tryz.underlying9
 a9:=Tryz.isAgg9
 z9:=Tryz.sizeOf9
 v9:=Tryz.zeroValue9 }
end Go.Proofs
namespace Go.Proofs.YtkmpfgpfbmeihaaGreatDoor
namespace os
open Go Go.RowKit lib bm pk
theorem qsx (a b:List UInt8) (w:World):Calls Tryz.prog 41 #[.string (str a),.string (str b)] w λe w'=>e = .returned (.int .i64 (Lib.compareBytes a b))/\w'=w:=by have:=Any.strings_Compare Tryz.lays106 (str a) (str b) w;exact this
theorem qvb (bs:List UInt8):∀n:Nat,bs.foldl (λn b=>256*n+b.toNat) n=n*256^bs.length+crc.kh bs:=by
 induction bs with
 | nil=>intro n;simp[crc.kh]
 | cons b t ih=>intro n;unfold crc.kh;rw[Ke,Ke,ih,ih (256*0+b.toNat),cQ,pK];rw[rC,Nat.mul_zero,fM];rw[show 256*n*256^t.length=n*(256^t.length*256) by rw[nE 256 n,vH,nE 256]];omega
theorem kV (b:UInt8) (t:List UInt8):crc.kh (b::t)=b.toNat*256^t.length+crc.kh t:=by have:=qvb t b.toNat;rw[<-this];unfold crc.kh;rw[Ke];simp
theorem qoc:∀a b:List UInt8,a.length=b.length->(Lib.compareBytes a b<0↔crc.kh a<crc.kh b)/\ -1<=Lib.compareBytes a b/\Lib.compareBytes a b<=1
 | [],[],_=>by simp[Lib.compareBytes]
 | [],_::_,h=>by simp at h
 | _::_,[],h=>by simp at h
 | a::s,b::t,h=>by
  have hl:s.length=t.length:=by simpa using h
  obtain⟨i1,i2,i3⟩:=qoc s t hl;have hs:=crc.Ff s;have ht:=crc.Ff t;rw[<-hl]at ht;rw[kV,kV,<-hl];unfold Lib.compareBytes;generalize 256^s.length=P at *;by_cases h1:a<b
  ·rw[if_pos h1];have h2:a.toNat<b.toNat:=h1;have h3:(a.toNat+1)*P<=b.toNat*P:=uz _ h2;rw[rC]at h3;exact⟨⟨λ_=>by omega,λ_=>by decide⟩,by decide,by decide⟩
  ·rw[if_neg h1];have h2:b.toNat<=a.toNat:=Nat.le_of_not_lt h1;by_cases h4:b<a
   ·rw[if_pos h4];have h5:b.toNat<a.toNat:=h4;have h3:(b.toNat+1)*P<=a.toNat*P:=uz _ h5;rw[rC]at h3;exact⟨⟨λh=>by simp at h,λh=>by omega⟩,by decide,by decide⟩
   ·rw[if_neg h4];have h6:a.toNat=b.toNat:=Nat.le_antisymm (Nat.le_of_not_lt h4) h2;rw[h6];exact⟨⟨λh=>by have:=i1.1 h;omega,λh=>i1.2 (by omega)⟩,i2,i3⟩
theorem qt7:∀a b:List UInt8,a.length=b.length->crc.kh a=crc.kh b->a=b
 | [],[],_,_=>rfl
 | [],_::_,h,_=>by simp at h
 | _::_,[],h,_=>by simp at h
 | a::s,b::t,h,he=>by
  have hl:s.length=t.length:=by simpa using h
  have hs:=crc.Ff s;have ht:=crc.Ff t;rw[<-hl]at ht;rw[kV,kV,<-hl]at he;have h1:=congrArg (·/256^s.length) he;have h2:=congrArg (·%256^s.length) he;have hp:0<256^s.length:=Nat.pow_pos (by decide);simp only[nE _ (256^s.length),Nat.mul_add_div hp,Fg hs,Fg ht,jS,Nat.mul_add_mod,Aq hs,Aq ht]at h1 h2;rw[Kh.1 h1,qt7 s t hl h2]
def fU (k:Int):Nat:=if k=1 then 1 else if k=4 then 2 else if k=2 then 3 else if k=3 then 4 else 5
theorem qww (k:Int):1<=fU k/\fU k<=5:=by
 unfold fU;split
 ·decide
 ·split
  ·decide
  ·split
   ·decide
   ·split<;>decide
def key (o:pk.Obj):Nat:=fU o.kind*256^40+crc.kh o.id
theorem ze7 {x y:pk.Obj} (hx:x.id.length=40) (hy:y.id.length=40):key x<key y↔fU x.kind<fU y.kind\/(fU x.kind=fU y.kind/\crc.kh x.id<crc.kh y.id):=by
 have h1:=crc.Ff x.id;have h2:=crc.Ff y.id;rw[hx]at h1;rw[hy]at h2;unfold key;generalize 256^40=P at *;constructor
 ·intro h;rcases Nat.lt_trichotomy (fU x.kind) (fU y.kind) with h3|h3|h3
  ·exact .inl h3
  ·rw[h3]at h;exact .inr ⟨h3,by omega⟩
  ·have h4:(fU y.kind+1)*P<=fU x.kind*P:=uz _ h3;rw[rC]at h4;omega
 ·rintro (h3|⟨h3,h4⟩)
  ·have h4:(fU x.kind+1)*P<=fU y.kind*P:=uz _ h3;rw[rC]at h4;omega
  ·rw[h3];omega
set_option maxRecDepth 100000
theorem qti (m:OM) (w:World):Calls Tryz.prog 36 #[.agg (dG m.1 m.2.1 m.2.2)] w λe w'=>e = .returned (.int .i64 (fU m.1.kind:Nat))/\Fr [] w w':=by
 obtain⟨⟨kd,bs,id,at_,crc⟩,ba,bc⟩:=m;simp only[dG];obtain⟨bl,bK⟩:=ah bs.length;rw[<-bK];clear bK;unfold fU;by_cases h1:kd=1
 ·subst h1;go_enter Tryz.func36,Tryz.ntmps36;go_wp2;go_ret;exact⟨rfl,(Fr.refl [] w).alloc _⟩
 have b1:(kd==1)=false:=by simpa using h1
 rw[if_neg h1];by_cases h4:kd=4
 ·subst h4;go_enter Tryz.func36,Tryz.ntmps36;go_wp2;go_ret;exact⟨rfl,(Fr.refl [] w).alloc _⟩
 have b4:(kd==4)=false:=by simpa using h4
 rw[if_neg h4];by_cases h2:kd=2
 ·subst h2;go_enter Tryz.func36,Tryz.ntmps36;go_wp2;go_ret;exact⟨rfl,(Fr.refl [] w).alloc _⟩
 have b2:(kd==2)=false:=by simpa using h2
 rw[if_neg h2];by_cases h3:kd=3
 ·subst h3;go_enter Tryz.func36,Tryz.ntmps36;go_wp2;go_ret;exact⟨rfl,(Fr.refl [] w).alloc _⟩
 have b3:(kd==3)=false:=by simpa using h3
 rw[if_neg h3];go_enter Tryz.func36,Tryz.ntmps36;go_wp2;go_ret;exact⟨rfl,(Fr.refl [] w).alloc _⟩
theorem qxh (x:Int) (w:World):Calls Tryz.prog 71 #[.int .i64 x] w λe w'=>e = .returned (.bool false)/\Fr [] w w':=by
 have h:(x !=x)=false:=by simp
 go_enter Tryz.func71,Tryz.ntmps71;go_wp2;go_ret;exact⟨rfl,Fr.refl [] w⟩
theorem zb1 (x y:Int) (w:World):Calls Tryz.prog 40 #[.int .i64 x,.int .i64 y] w λe w'=>e = .returned (.int .i64 (if x<y then -1 else if y<x then 1 else 0))/\Fr [] w w':=by
 have H:=af (qxh x w);have H':=af (λw'=>qxh y w');by_cases h1:x<y
 ·have g1:decide (x<y)=true:=by simpa using h1
  rw[if_pos h1];clear h1;go_enter Tryz.func40,Tryz.ntmps40;go_wp2_with (go_at_call 71;first|(refine H.out.mono ?_;rintro e w1 ⟨rfl,f1⟩;have H1:=af f1;clear f1 H)|(refine (H'.out _).mono ?_;rintro e w2 ⟨rfl,f2⟩;have H2:=af f2;clear f2));go_ret;exact⟨rfl,H1.out.trans H2.out⟩
 rw[if_neg h1];have g1:decide (x<y)=false:=by simpa using h1
 by_cases h2:y<x
 ·have g2:decide (y<x)=true:=by simpa using h2
  rw[if_pos h2];clear h1 h2;go_enter Tryz.func40,Tryz.ntmps40;go_wp2_with (go_at_call 71;first|(refine H.out.mono ?_;rintro e w1 ⟨rfl,f1⟩;have H1:=af f1;clear f1 H)|(refine (H'.out _).mono ?_;rintro e w2 ⟨rfl,f2⟩;have H2:=af f2;clear f2));go_ret;exact⟨rfl,H1.out.trans H2.out⟩
 rw[if_neg h2];have g2:decide (y<x)=false:=by simpa using h2
 clear h1 h2;go_enter Tryz.func40,Tryz.ntmps40;go_wp2_with (go_at_call 71;first|(refine H.out.mono ?_;rintro e w1 ⟨rfl,f1⟩;have H1:=af f1;clear f1 H)|(refine (H'.out _).mono ?_;rintro e w2 ⟨rfl,f2⟩;have H2:=af f2;clear f2));go_ret;exact⟨rfl,H1.out.trans H2.out⟩
def kN (R:Nat):Value:=.func (.func 39) #[] #[.pointer (some ⟨R,0,none⟩)]
def eP (w:World) (R:Nat):Prop:=w.heap[R]?=some (.cells #[.func (.func 36) #[] #[]] 78 (0,0))
set_option maxRecDepth 100000
theorem Rc (R:Nat) (x y:OM) (w:World) (hR:eP w R) (hx:x.1.id.length=40) (hy:y.1.id.length=40) :
  Calls Tryz.prog 39 #[.agg (dG x.1 x.2.1 x.2.2),.agg (dG y.1 y.2.1 y.2.2),.pointer (some ⟨R,0,none⟩)] w λe w'=>∃r:Int,e = .returned (.int .i64 r)/\(r<0↔key x.1<key y.1)/\ -1<=r/\r<=1/\Fr [] w w':=by
 have hk:=ze7 hx hy;have rx:=qti x;have ry:=qti y;have lx:=qww x.1.kind;have ly:=qww y.1.kind;have rP:=λw'=>zb1 (fU x.1.kind:Nat) (fU y.1.kind:Nat) w'
 have hcs:=λw'=>qsx x.1.id y.1.id w'
 have fH:=qoc x.1.id y.1.id (hx.trans hy.symm);unfold eP at hR;obtain⟨⟨kd,bs,id,at_,crc⟩,ba,bc⟩:=x;obtain⟨⟨Wz,LD,id2,at2,P6⟩,ba2,bc2⟩:=y;simp only at hk rx ry lx ly rP hcs fH;simp only[dG]at rx ry ⊢;generalize fU kd=p at *;generalize fU Wz=q at *;generalize bs.length=bl at *;generalize LD.length=bl2 at *;generalize Lib.compareBytes id id2=c at *;obtain⟨si,kQ⟩:=ah (str id);obtain⟨sj,A7⟩:=ah (str id2);rw[<-kQ]at rx hcs ⊢;rw[<-A7]at ry hcs ⊢;have H:=cz hR hk rx ry rP hcs fH;clear hR hk rx ry rP hcs fH kQ A7 hx hy;go_enter Tryz.func39,Tryz.ntmps39;go_upto_region 1 with fail;generalize bq:World.alloc _ _=w2;obtain⟨X,hX⟩:=ah w.heap.size;obtain⟨Y,hY⟩:=ah (X+1);rw[<-hX,<-hY];have jU:w2.heap[X]?=some (.cells #[.int .i64 kd,.slice ba bl bc,.string si,.int .i64 at_,.int .u32 crc] 34 (0,0)):=by rw[<-bq,hX];exact pJ _ (bx w _)
 have kt:w2.heap[Y]?=some (.cells #[.int .i64 Wz,.slice ba2 bl2 bc2,.string sj,.int .i64 at2,.int .u32 P6] 34 (0,0)):=by have h:=bx (w.alloc (.cells #[.int .i64 kd,.slice ba bl bc,.string si,.int .i64 at_,.int .u32 crc] 34)) (.cells #[.int .i64 Wz,.slice ba2 bl2 bc2,.string sj,.int .i64 at2,.int .u32 P6] 34);rw[eZ,<-hX,<-hY,bq]at h;exact h
 have f2:Fr [] w w2:=by rw[<-bq];exact ((Fr.refl [] w).alloc _).alloc _
 have tk:=f2.ae H.out.1 (by simp);have x0:=cell_of jU 0;have x1:=cell_of jU 1;have x2:=cell_of jU 2;have x3:=cell_of jU 3;have x4:=cell_of jU 4;have y0:=cell_of kt 0;have y1:=cell_of kt 1;have y2:=cell_of kt 2;have y3:=cell_of kt 3;have y4:=cell_of kt 4;have r0:=cell_of tk 0;simp only[bw,aV,bN]at x0 x1 x2 x3 x4 y0 y1 y2 y3 y4 r0;have HX:=au x2 y2 f2;clear bq hX hY jU kt tk f2;have x0:=λx=>(dk [] w2.drew x).cell (show w2.drew.cell? _=_ from x0) (by simp)
 have x1:=λx=>(dk [] w2.drew x).cell (show w2.drew.cell? _=_ from x1) (by simp)
 have x2:=λx=>(dk [] w2.drew x).cell (show w2.drew.cell? _=_ from x2) (by simp)
 have x3:=λx=>(dk [] w2.drew x).cell (show w2.drew.cell? _=_ from x3) (by simp)
 have x4:=λx=>(dk [] w2.drew x).cell (show w2.drew.cell? _=_ from x4) (by simp)
 have y0:=λx=>(dk [] w2.drew x).cell (show w2.drew.cell? _=_ from y0) (by simp)
 have y1:=λx=>(dk [] w2.drew x).cell (show w2.drew.cell? _=_ from y1) (by simp)
 have y2:=λx=>(dk [] w2.drew x).cell (show w2.drew.cell? _=_ from y2) (by simp)
 have y3:=λx=>(dk [] w2.drew x).cell (show w2.drew.cell? _=_ from y3) (by simp)
 have y4:=λx=>(dk [] w2.drew x).cell (show w2.drew.cell? _=_ from y4) (by simp)
 have r0:=λx=>(dk [] w2.drew x).cell (show w2.drew.cell? _=_ from r0) (by simp)
 refine jh 8 [(false,0),(false,1),(false,3),(false,4),(true,2),(true,5),(false,6),(false,7)] [] (by kernel_rfl) (by kernel_rfl) (λ_ _ d _ _ h=>by cases d<;>exact h) ?_;simp only[iw];refine cS 4 rfl ?_;simp only[aU];repeat (go_big_quiet_step (fail))
 refine wpQuiet_nil ?_;clear x0 x1 x2 x3 x4 y0 y1 y2 y3 y4 r0;refine ep rfl ?_;intro K hK;go_wp2_with (go_at_call 36;refine (H.out.2.2.1 _).mono ?_;rintro e w3 ⟨rfl,f3⟩);refine hK.out _ _ f3 ?_;clear hK K;refine ep rfl ?_;intro K hK;go_wp2_with (go_at_call 36;refine (H.out.2.2.2.1 _).mono ?_;rintro e w4 ⟨rfl,f4⟩);refine hK.out _ _ f4 ?_;clear hK K;refine cS 2 rfl ?_;simp only[aU];repeat (go_big_quiet_step (fail))
 refine wpQuiet_nil ?_;refine fE ?_;have f24:=((Fr.av [] w2).trans f3).trans f4;have x2:=f24.cell HX.o0 (by simp);have y2:=f24.cell HX.o1 (by simp);have HF:=af (HX.l2.trans f24);clear f3 f4 f24;by_cases hpq:p=q
 ·subst hpq;have HP:=af True.intro;go_wp2_with (go_at_call 41;refine (H.out.2.2.2.2.2.1 _).mono ?_;rintro e w5 ⟨rfl,hw⟩;obtain rfl:=hw.symm);go_ret;obtain⟨c1,c2,c3⟩:=H.out.2.2.2.2.2.2;exact⟨c,rfl,by rw[H.out.2.1,c1];simp,c2,c3,HF.out⟩
 ·have gpq:((p:Int)!=(q:Int))=true:=by simp;omega
  go_wp2_with (go_at_call 40;refine (H.out.2.2.2.2.1 _).mono ?_;rintro e w5 ⟨rfl,f5⟩;have H5:=af f5;clear f5);all_goals go_ret
  all_goals refine⟨_,rfl,?_,by decide,by decide,HF.out.trans H5.out⟩
  all_goals rw[H.out.2.1]
  all_goals omega
end os

end Go.Proofs.YtkmpfgpfbmeihaaGreatDoor