/-
  Texts of this proof, one behind the other: RsTry, PkLaw3, RsTold, RsFrom, PkLaw5, RsAsk, RsMade, WrRight, OKey, OCmp.
-/
import Derived.Test.YtkmpfgpfbmeihaaGreatDoorQ20
import Derived.Shelf.Small.Strs
import Derived.Lib.Bytealg
set_option maxHeartbeats 16000000
set_option maxRecDepth 100000
set_option linter.unusedVariables false
set_option linter.unusedSimpArgs false
namespace Go.Proofs.YtkmpfgpfbmeihaaGreatDoor
namespace pk
open Go Go.RowKit lib bm
theorem zak (p:St->Bool):∀(W:List St) (j:Nat) (s:St),(∀t,t<j->∀y,W[t]?=some y->p y=false)->W[j]?=some s->p s=true->W.find? p=some s
 | [],j,s,_,h,_=>by simp at h
 | x::t,0,s,_,h,hs=>by
  simp only[aT,eJ]at h;rw[KM,h,hs]
 | x::t,j+1,s,hn,h,hs=>by rw[KM,hn 0 (by omega) x rfl];exact zak p t j s (λk hk y hy=>hn (k+1) (by omega) y (by simpa using hy)) (by simpa using h) hs
def Tried (w:World) (g O S:Nat) (gv tv:Value) (la:OA) (ms:List EM) (W:List St) (i:Nat) (T:St) (e:Ending) (w':World):Prop:=
 match T with
 | none=>e = .returned (.bool false)/\Fr [] w w'
 | some s=>e = .returned (.bool true)/\Fr [O,S] w w'/\∃C' D',Rb w' g O S gv tv la ms C' D'/\tY w' O S C' D' (ms.map (·.1)) (W.set i (some s))
theorem zft (g O S:Nat) (gv tv:Value) (la:OA) (ms:List EM) (C D:AV) (W:List St) (i:Nat) (m:EM) (w:World) (h:Rb w g O S gv tv la ms C D) (hs:tY w O S C D (ms.map (·.1)) W) (hm:ms[i]?=some m) (hW:W[i]?=some none)
  (hp:∀w',Fr [O,S] w w'->obj.Pw w') (hk:(m.1.kind=6/\∃q,pB (ms.map (·.1)) i m.1.off=some q)\/m.1.kind=7) :
  Calls Tryz.prog 48 #[.pointer (some ⟨g,0,none⟩),.int .i64 i] w (Tried w g O S gv tv la ms W i (sW (ms.map (·.1)) W i m.1)):=by
 obtain⟨n,hn⟩:=ai ms.length;have dP:i<n:=by rw[hn];exact (jq.1 hm).1
 have mC:n<=4096:=by rw[hn];exact h.few
 have zt:W.length=n:=by rw[hs.len,bW,hn]
 have b1:=cell_of h.box 1;have b2:=cell_of h.box 2;simp only[bF,aT,bP]at b1 b2;rw[<-hn]at b1 b2;have ZS:D.size=n*4:=by rw[h.sc,hn]
 have hCs:C.size=n*5:=by rw[h.oc,hn]
 have lY:=hs.base i m.1 (by rw[iM,hm];rfl);obtain⟨T,hT⟩:=ai (sW (ms.map (·.1)) W i m.1);rw[<-hT];have H:=oU h hs hm hW hp hn ZS hCs zt;clear h hs hm hW hp hn;rcases hk with⟨hk,q,hq⟩|hk
 ·have tP:iV (ms.map (·.1)) i m.1 = .iface 123 (.int .i64 q):=by unfold iV;rw[if_pos hk,hq];rfl
  rw[tP]at lY;have y3:w.cell? ⟨S,i*4+3,none⟩=some (.iface 123 (.int .i64 q)):=by rw[cell_of H.out.1.sb];exact lY
  have Ez:q<n:=by have:=List.mem_of_find?_eq_some hq;simp at this;omega
  have sQ:T=zm m.1 (W[q]?.getD none):=by rw[hT];unfold sW;rw[if_pos hk,hq]
  have yp:∀w:World,(Instr.typeAssert (.iface 123 (.int .i64 q)) 98 123 true).run Tryz.prog w = .ok (.tuple #[.int .i64 q,.bool true]) w:=λ_=>by kernel_rfl
  clear lY tP hq hk hT zt;go_enter Tryz.func48,Tryz.ntmps48;go_upto_region 13 with fail;clear y3 yp;obtain⟨s,rP⟩:∃s,W[q]?=some s:=⟨W[q]'(by rw[H.out.2.2.2.2.2.2.2.2];omega),br _⟩;rw[rP,Bi]at sQ;have aH:=H.out.2.1.st q s rP;have gq:decide (((q:Nat):Int)<0)=false:=by simp
  match s,aH,sQ,rP with
  | none,aH,sQ,rP=>
   have y0:w.cell? ⟨S,q*4,none⟩=some (.bool false):=by rw[cell_of H.out.1.sb];exact aH.1
   have HT:=ah sQ;clear aH sQ rP b1;go_wp2;go_ret;rw[HT.out];exact⟨rfl,Fr.refl _ _⟩
  | some (.error x),aH,sQ,rP=>
   have y0:w.cell? ⟨S,q*4,none⟩=some (.bool true):=by rw[cell_of H.out.1.sb];exact aH.1
   have y1:w.cell? ⟨S,q*4+1,none⟩=some (.int .i64 x):=by rw[cell_of H.out.1.sb];exact aH.2.1
   have hx:=aH.2.2;have gx:((x:Int)!=0)=true:=by simp;omega
   have HT:=aw sQ aH hx;clear aH sQ rP b1 hx;go_upto_region 16 with fail;have uu:g∉[S]:=by simp;exact H.out.1.gS
   have s2:∀x,(sup [S] w.drew x).cell? ⟨g,2,none⟩=some (.slice (some ⟨S,0,none⟩) n n):=λx=>(dY [S] w.drew x).cell (show w.drew.cell? _=_ from b2) uu
   refine j4 24 [(false,0),(false,1),(false,2),(false,3),(false,4),(false,5),(false,6),(false,7),(false,8),(false,9),(false,10),(false,11),(false,12),(false,13),(false,14),(false,15),(false,16),(true,17),(false,18),(false,19),(true,20),(false,21),(false,22),(true,23)] [S] (by kernel_rfl) (by kernel_rfl) (λ_ _ d _ _ h=>by cases d<;>exact h) ?_;simp only[jm];refine dT 17 rfl ?_;simp only[bD];repeat (go_big_quiet_step (fail))
   refine wpQuiet_nil ?_;clear s2 uu;obtain⟨w1,cP⟩:=ai w.drew;have fd:Fr [] w w1:=by rw[cP];exact Fr.av [] w
   replace b2:w1.cell? ⟨g,2,none⟩=some (.slice (some ⟨S,0,none⟩) n n):=fd.cell b2 (by simp);replace y1:w1.cell? ⟨S,q*4+1,none⟩=some (.int .i64 x):=fd.cell y1 (by simp);have hR:=H.out.1.fr fd;rw[<-cP];clear cP;have r0:D[i*4]?=some (.bool false):=(H.out.2.1.st i none H.out.2.2.2.1).1;have r1:D[i*4+1]?=some (.int .i64 0):=(H.out.2.1.st i none H.out.2.2.2.1).2;have v0:w1.cell? ⟨S,i*4,none⟩=some (.bool false):=by rw[cell_of hR.sb];exact r0
   have z0:=aW hR.sb (i*4);have wY:=bI (o:=i*4) hR.sb (.bool true);have f4:Fr [S] w1 (w1.setCell ⟨S,i*4,none⟩ (.bool true)):=(Fr.refl [S] w1).setCell (by simp) _;have v1:(w1.setCell ⟨S,i*4,none⟩ (.bool true)).cell? ⟨S,i*4+1,none⟩=some (.int .i64 0):=by rw[cell_of wY,aX (by omega)];exact r1
   have z1:=aW wY (i*4+1);have DA:=hR.rL f4 wY (by rw[rA]);have LY:=bI (o:=i*4+1) wY (.int .i64 x);have f5:Fr [S] (w1.setCell ⟨S,i*4,none⟩ (.bool true)) ((w1.setCell ⟨S,i*4,none⟩ (.bool true)).setCell ⟨S,i*4+1,none⟩ (.int .i64 x)):=(Fr.refl [S] _).setCell (by simp) _;have yI:=DA.rL f5 LY (by rw[rA]);have fF:=f4.trans f5;have H4:=dk yI fF fd r0 r1 f4 f5;clear hR r0 r1 wY f4 DA LY f5 yI fF fd y0;clear b2;refine eT rfl ?_;intro X1 nC;go_wp2;refine nC.out _ _ (Fr.refl _ _) ?_;clear nC X1 y1;refine dT 2 rfl ?_;simp only[bD];repeat (go_big_quiet_step (fail))
   refine wpQuiet_nil ?_;refine eT rfl ?_;intro X1 nC;go_wp2;refine nC.out _ _ H4.out.2.2.2.2.2.1 ?_;clear nC X1 v0 z0;refine dT 2 rfl ?_;simp only[bD];repeat (go_big_quiet_step (fail))
   refine wpQuiet_nil ?_;refine eT rfl ?_;intro X1 nC;go_wp2;refine nC.out _ _ H4.out.2.2.2.2.2.2 ?_;clear nC X1 v1 z1;refine ic ?_;go_wp2;go_ret;obtain⟨yI,fF,fd,r0,r1,f4,f5⟩:=H4.out;obtain⟨sQ,aH,hx⟩:=HT.out;rw[sQ];have fT:=(fd.mono (T:=[O,S]) (by simp)).trans (fF.mono (T:=[O,S]) (λx hx=>.inl (by simp at hx;simp[hx])));refine⟨rfl,fT,C,_,yI,H.out.2.1.one i _ (λ_ _=>rfl) (λj hj=>by rw[aX (by omega),aX (by omega)]) fT ⟨?_,?_,hx⟩⟩
   ·rw[aX (by omega)];exact iG (by omega)
   ·exact iG (by rw[rA];omega)
  | some (.ok (ob,d)),aH,sQ,rP=>
   have y0:w.cell? ⟨S,q*4,none⟩=some (.bool true):=by rw[cell_of H.out.1.sb];exact aH.1
   have y1:w.cell? ⟨S,q*4+1,none⟩=some (.int .i64 0):=by rw[cell_of H.out.1.sb];exact aH.2.1
   have y2:w.cell? ⟨S,q*4+2,none⟩=some (.int .i64 d):=by rw[cell_of H.out.1.sb];exact aH.2.2.1
   obtain⟨hd,ba,bc,ho,di,kN,hle⟩:=aH.2.2.2;have o0:w.cell? ⟨O,q*5,none⟩=some (.int .i64 ob.kind):=by rw[cell_of H.out.1.ob];exact ho 0 _ rfl
   have o1:w.cell? ⟨O,q*5+1,none⟩=some (.slice ba ob.body.length bc):=by rw[cell_of H.out.1.ob];exact ho 1 _ rfl
   obtain⟨bl,bQ⟩:=ai ob.body.length;obtain⟨kd,lG⟩:=ai ob.kind;rw[<-bQ]at o1;rw[<-lG]at o0;have gx:((0:Int)!=0)=false:=by decide
   have fd:=Fr.av [] w;have cR:=W6 g O S gv tv la ms C D i m ob.kind ba bc ob.body d w.drew (H.out.1.fr fd) H.out.2.2.1 (di.fr fd) kN (by omega) (H.out.2.2.2.2.1 _ (fd.mono (by simp))) (H.out.2.1.st i none H.out.2.2.2.1).2 (λw' f=>H.out.2.2.2.2.1 _ ((fd.mono (by simp)).trans f));rw[<-bQ,<-lG]at cR;have HT:=aG sQ cR lG fd;have ew:wrap64 ((d:Int)+1)=((d+1:Nat):Int):=by unfold wrap64;omega
   clear aH sQ rP di kN hle cR bQ lG fd;go_upto_region 12 with fail;refine uO 27 (by kernel_rfl) (by kernel_rfl) ?_;simp only[uF];repeat (go_big_quiet_step (fail))
   refine wpQuiet_nil ?_;clear y0 y1 y2 o0 o1 b1 b2;go_wp2_with (go_at_call 80;refine HT.out.2.1.mono ?_;rintro e w2 ⟨rfl,f2,C2,D2,lJ,lj⟩;have H2:=aw f2 lJ lj;clear f2 lJ lj);go_ret;obtain⟨f2,lJ,lj⟩:=H2.out;obtain⟨sQ,_,lG,fd⟩:=HT.out;rw[sQ];rw[lG]at lj;have fT:=(fd.mono (T:=[O,S]) (by simp)).trans f2;exact⟨rfl,fT,C2,D2,lJ,H.out.2.1.one i _ lj.1 lj.2.1 fT (lj.st (lt_of_block (H.out.1.fr fd).ob) (lt_of_block (H.out.1.fr fd).sb))⟩
 ·have tP:iV (ms.map (·.1)) i m.1 = .iface 124 (.string (str m.1.base)):=by unfold iV;rw[if_neg (by omega),if_pos hk]
  rw[tP]at lY;have y3:w.cell? ⟨S,i*4+3,none⟩=some (.iface 124 (.string (str m.1.base))):=by rw[cell_of H.out.1.sb];exact lY
  have hT7:T=zm m.1 ((W.find? (uX m.1.base)).getD none):=by rw[hT];unfold sW;rw[if_neg (by omega)]
  obtain⟨sb,lh⟩:=ai (str m.1.base);rw[<-lh]at y3;have yp:∀w:World,(Instr.typeAssert (.iface 124 (.string sb)) 98 123 true).run Tryz.prog w = .ok (.tuple #[.int .i64 0,.bool false]) w:=λ_=>by kernel_rfl
  have nZ:∀w:World,(Instr.typeAssert (.iface 124 (.string sb)) 98 124 false).run Tryz.prog w = .ok (.string sb) w:=λ_=>by kernel_rfl
  have H7:=ak hT7 lh;clear lY tP hk hT zt hT7 lh;go_enter Tryz.func48,Tryz.ntmps48;go_wp2;clear y3 yp nZ;go_loopg [5,9,38] n (λk s5 s9 s38 wr=>∃j:Nat,s38 = .int .i64 (j:Nat)/\j+k=n/\s5 = .int .i64 (-1)/\wr=w/\∀t,t<j->∀s,W[t]?=some s->uX m.1.base s=false);case atStart=>exact⟨0,rfl,by omega,rfl,rfl,λt ht=>by omega⟩
  case round=>
   obtain⟨q,rfl,hqk,rfl,pb,oK⟩:=hrel;subst pb;have HN:=ah oK;clear oK;by_cases Ez:q<n
   ·obtain⟨k,rfl⟩:∃k,gk=k+1:=⟨gk-1,by omega⟩;obtain⟨s,rP⟩:∃s,W[q]?=some s:=⟨W[q]'(by rw[H.out.2.2.2.2.2.2.2.2];omega),br _⟩;have aH:=H.out.2.1.st q s rP;have kO:uX m.1.base s=false->∀t,t<q+1->∀s,W[t]?=some s->uX m.1.base s=false:=λh t ht y hy=>by
     by_cases htq:t=q
     ·subst htq;rw[rP]at hy;obtain rfl:=lA hy;exact h
     ·exact HN.out t (by omega) y hy
    match s,aH,rP,kO with
    | none,aH,rP,kO=>
     have y0:wr.cell? ⟨S,q*4,none⟩=some (.bool false):=by rw[cell_of H.out.1.sb];exact aH.1
     have HX:=ah (kO rfl);clear aH rP kO;go_wp2;go_roundg k;case measure=>omega
     case rel=>exact⟨q+1,rfl,by omega,rfl,rfl,HX.out⟩
    | some (.error x),aH,rP,kO=>
     have y0:wr.cell? ⟨S,q*4,none⟩=some (.bool true):=by rw[cell_of H.out.1.sb];exact aH.1
     have y1:wr.cell? ⟨S,q*4+1,none⟩=some (.int .i64 x):=by rw[cell_of H.out.1.sb];exact aH.2.1
     have hx:=aH.2.2;have gx:((x:Int)==0)=false:=by simp;omega
     have HX:=ah (kO rfl);clear aH rP kO hx;go_wp2;go_roundg k;case measure=>omega
     case rel=>exact⟨q+1,rfl,by omega,rfl,rfl,HX.out⟩
    | some (.ok (ob,d)),aH,rP,kO=>
     have yy0:wr.cell? ⟨S,q*4,none⟩=some (.bool true):=by rw[cell_of H.out.1.sb];exact aH.1
     have yy1:wr.cell? ⟨S,q*4+1,none⟩=some (.int .i64 0):=by rw[cell_of H.out.1.sb];exact aH.2.1
     obtain⟨si,mM⟩:=ai (str ob.id);have yi:wr.cell? ⟨O,q*5+2,none⟩=some (.string si):=by obtain⟨_,ba,bc,ho,_⟩:=aH.2.2.2;rw[cell_of H.out.1.ob,mM];exact ho 2 _ rfl
     by_cases hid:ob.id=m.1.base
     ·have gs:(si.toList==sb.toList)=true:=by rw[mM,H7.l1,hid,bh];exact beq_self_eq_true _
      have sQ:T=zm m.1 (some (.ok (ob,d))):=by rw[H7.o0,zak (uX m.1.base) W q _ (λt ht y hy=>HN.out t ht y hy) rP (by simpa[uX] using hid)];rfl
      clear hid kO mM;go_upto_region 13 with fail;clear gs yi yy0 yy1;have gq:decide (((q:Nat):Int)<0)=false:=by simp
      have y0:wr.cell? ⟨S,q*4,none⟩=some (.bool true):=by rw[cell_of H.out.1.sb];exact aH.1
      have y1:wr.cell? ⟨S,q*4+1,none⟩=some (.int .i64 0):=by rw[cell_of H.out.1.sb];exact aH.2.1
      have y2:wr.cell? ⟨S,q*4+2,none⟩=some (.int .i64 d):=by rw[cell_of H.out.1.sb];exact aH.2.2.1
      obtain⟨hd,ba,bc,ho,di,kN,hle⟩:=aH.2.2.2;have o0:wr.cell? ⟨O,q*5,none⟩=some (.int .i64 ob.kind):=by rw[cell_of H.out.1.ob];exact ho 0 _ rfl
      have o1:wr.cell? ⟨O,q*5+1,none⟩=some (.slice ba ob.body.length bc):=by rw[cell_of H.out.1.ob];exact ho 1 _ rfl
      obtain⟨bl,bQ⟩:=ai ob.body.length;obtain⟨kd,lG⟩:=ai ob.kind;rw[<-bQ]at o1;rw[<-lG]at o0;have gx:((0:Int)!=0)=false:=by decide
      have fd:=Fr.av [] wr;have cR:=W6 g O S gv tv la ms C D i m ob.kind ba bc ob.body d wr.drew (H.out.1.fr fd) H.out.2.2.1 (di.fr fd) kN (by omega) (H.out.2.2.2.2.1 _ (fd.mono (by simp))) (H.out.2.1.st i none H.out.2.2.2.1).2 (λw' f=>H.out.2.2.2.2.1 _ ((fd.mono (by simp)).trans f));rw[<-bQ,<-lG]at cR;have HT:=aG sQ cR lG fd;have ew:wrap64 ((d:Int)+1)=((d+1:Nat):Int):=by unfold wrap64;omega
      clear aH sQ rP di kN hle cR bQ lG fd;go_upto_region 12 with fail;refine uO 27 (by kernel_rfl) (by kernel_rfl) ?_;simp only[uF];repeat (go_big_quiet_step (fail))
      refine wpQuiet_nil ?_;clear y0 y1 y2 o0 o1 b1 b2;go_wp2_with (go_at_call 80;refine HT.out.2.1.mono ?_;rintro e w2 ⟨rfl,f2,C2,D2,lJ,lj⟩;have H2:=aw f2 lJ lj;clear f2 lJ lj);go_ret;obtain⟨f2,lJ,lj⟩:=H2.out;obtain⟨sQ,_,lG,fd⟩:=HT.out;rw[sQ];rw[lG]at lj;have fT:=(fd.mono (T:=[O,S]) (by simp)).trans f2;exact⟨rfl,fT,C2,D2,lJ,H.out.2.1.one i _ lj.1 lj.2.1 fT (lj.st (lt_of_block (H.out.1.fr fd).ob) (lt_of_block (H.out.1.fr fd).sb))⟩
     ·have gs:(si.toList==sb.toList)=false:=by rw[mM,H7.l1,bh,bh];simpa using hid
      have HX:=ah (kO (by simpa[uX] using hid));clear aH rP kO hid mM;go_wp2;go_roundg k;case measure=>omega
      case rel=>exact⟨q+1,rfl,by omega,rfl,rfl,HX.out⟩
   ·have hT0:T=none:=by
     rw[H7.o0,KZ.2 (λx hx=>?_)]
     ·rfl
     ·obtain⟨t,ht⟩:=Ee.1 hx;have:=(jq.1 ht).1;rw[HN.out t (by rw[H.out.2.2.2.2.2.2.2.2]at this;omega) x ht];simp
    have HX:=ah hT0;clear hT0;obtain rfl:q=n:=by omega
    go_wp2;go_ret;rw[HX.out];exact⟨rfl,Fr.refl _ _⟩
end pk
namespace pk
def sU (l:List ek) (W:List St):Prop:=∀i x,l[i]?=some x->W[i]?=some none->(x.kind=6/\∃q,pB l i x.off=some q)\/x.kind=7
theorem qwc (l:List ek):sU l (gK l):=by
 intro i x hx hW;rw[W7 l i x hx]at hW;have h:=lA hW;unfold eD at h;split at h
 ·rename_i h6;split at h
  ·cases h
  ·rename_i q hq;exact .inl ⟨h6,q,hq⟩
 ·split at h
  ·rename_i h7;exact .inr h7
  ·cases h
theorem sU.set {l:List ek} {W:List St} (h:sU l W) (i:Nat) (s:Except Nat (Obj×Nat)):sU l (W.set i (some s)):=by
 intro k x hx hW;rw[List.getElem?_set]at hW;split at hW
 ·split at hW
  ·cases hW
  ·cases hW
 ·exact h k x hx hW
theorem sU.pass {l:List ek}:∀(n i:Nat) (W:List St) (more:Bool),sU l W->sU l (pass l n i W more).1
 | 0,i,W,more,h=>h
 | n+1,i,W,more,h=>by
  rw[pk.pass];split
  ·split
   ·exact sU.pass n (i+1) W more h
   ·exact sU.pass n (i+1) _ true (h.set i _)
  ·exact sU.pass n (i+1) W more h
theorem sU.ask {l:List ek} {kn:List Kn}:∀(n i:Nat) (W:List St) {W2:List St},sU l W->ask l kn n i W=some W2->sU l W2
 | 0,i,W,W2,h,e=>by cases e
 | n+1,i,W,W2,h,e=>by
  rw[pk.ask]at e;split at e
  ·split at e
   ·split at e
    ·obtain rfl:=lA e;exact h.set i _
    ·exact sU.ask n (i+1) W h e
   ·exact sU.ask n (i+1) W h e
  ·exact sU.ask n (i+1) W h e
open Go Go.RowKit lib bm
def pV (q:Option Nat):Value:=.pointer (q.map λb=>⟨b,0,none⟩)
def pD:Option Nat->DataW Unit
 | none=>.nil
 | some b=>.lit (.int .i64 b)
def pR:Value->Option (DataW Unit×List MemPlace)
 | .pointer none=>some (.nil,[])
 | .pointer (some a)=>if a=⟨a.block,0,none⟩ then some (.lit (.int .i64 (a.block:Nat)),[]) else none
 | _=>none
theorem UQ (q:Option Nat):pR (pV q)=some (pD q,[]):=by
 cases q with
 | none=>rfl
 | some b=>simp[pR,pV,pD]
theorem RW {v:Value} {z:DataW Unit×List MemPlace} (h:pR v=some z):∃q,v=pV q/\z=(pD q,[]):=by
 unfold pR at h;split at h
 ·exact⟨none,rfl,(lA h).symm⟩
 ·rename_i a;split at h
  ·rename_i he;refine⟨some a.block,?_,(lA h).symm⟩;unfold pV;rw[he];rfl
  ·cases h
 ·cases h
theorem RV {a b:Option Nat} (h:pD a=pD b):a=b:=by
 cases a with
 | none=>cases b with
  | none=>rfl
  | some b=>cases h
 | some a=>cases b with
  | none=>cases h
  | some b=>
   simp only[pD,DataW.lit.injEq,Lit.int.injEq,true_and]at h
   rw[Int.ofNat.inj h]
def jJ (w:World) (b:Nat):Prop:=∃es c,w.heap[b]?=some (.map es c)
theorem jJ.ne {w:World} {b x:Nat} {c:AV} {t:TypeId} {f:Nat×Nat} (h:jJ w b) (hx:w.heap[x]?=some (.cells c t f)):x≠b:=by rintro rfl;obtain⟨es,c,h⟩:=h;rw[h]at hx;cases hx
theorem _root_.Go.Proofs.YtkmpfgpfbmeihaaGreatDoor.lib.Cs.rK {w w':World} {b:Nat} {a:OA} {vs:LV} (h:Cs w a vs) (hb:jJ w b) (f:Fr [b] w w'):Cs w' a vs:=by
 rcases h with h|⟨g,o,rfl,h⟩
 ·exact .inl h
 ·refine .inr ⟨g,o,rfl,λj v hv=>?_⟩;have hc:=h j v hv;refine f.cell hc ?_;simp only[iH];rintro rfl;obtain⟨es,c,hm⟩:=hb;simp[World.cell?,hm]at hc
theorem _root_.Go.Proofs.YtkmpfgpfbmeihaaGreatDoor.lib.Rd.rK {w w':World} {b:Nat} {a:OA} {c:Nat} {bs:LB} (h:lib.Rd w a c bs) (hb:jJ w b) (f:Fr [b] w w'):lib.Rd w' a c bs:=⟨h.cs.rK hb f,h.le,h.max,h.nil⟩
theorem lO.rK {w w':World} {b:Nat} {a:OA} {ms:List EM} (h:lO w a ms) (hb:jJ w b) (f:Fr [b] w w'):lO w' a ms:=⟨h.cs.rK hb f,λm hm=>(h.dat m hm).rK hb f⟩
theorem Rb.rK {w w':World} {b g O S:Nat} {gv tv:Value} {la:OA} {ms:List EM} {C D:AV} (h:Rb w g O S gv tv la ms C D) (hb:jJ w b) (f:Fr [b] w w'):Rb w' g O S gv tv la ms C D:=
 ⟨f.af h.box (by simp;exact hb.ne h.box),h.ents.rK hb f,f.af h.ob (by simp;exact hb.ne h.ob),h.oc,f.af h.sb (by simp;exact hb.ne h.sb),h.sc,h.gO,h.gS,h.OS,h.offl,h.offd,h.few⟩
theorem S1.rK {w w':World} {b O S:Nat} {C D:AV} {i:Nat} {s:St} (h:S1 w O S C D i s) (hb:jJ w b) (f:Fr [b] w w'):S1 w' O S C D i s:=by
 match s,h with
 | none,h=>exact h
 | some (.error x),h=>exact h
 | some (.ok (o,d)),h=>obtain⟨h0,h1,h2,h3,ba,bc,h4,h5,h6,h7⟩:=h;exact⟨h0,h1,h2,h3,ba,bc,h4,h5.rK hb f,h6,h7⟩
theorem tY.rK {w w':World} {b O S:Nat} {C D:AV} {l:List ek} {W:List St} (h:tY w O S C D l W) (hb:jJ w b) (f:Fr [b] w w'):tY w' O S C D l W:=
 ⟨h.len,λi s hs=>(h.st i s hs).rK hb f,h.base⟩
def Ok (k:Kn) (a:OA) (c:Nat):Array Value:=#[.int .i64 k.kind,.slice a k.body.length c,.string (str k.id),.int .i64 0,.int .u32 0]
def KB (w:World) (O S p:Nat) (k:Kn):Prop:=p≠O/\p≠S/\∃a c,w.heap[p]?=some (.cells (Ok k a c) 34 (0,0))/\lib.Rd w a c k.body/\∀y∈af a,y≠O/\y≠S
theorem KB.fr {w w':World} {O S p:Nat} {k:Kn} (h:KB w O S p k) (f:Fr [O,S] w w'):KB w' O S p k:=by obtain⟨h1,h2,a,c,h3,h4,h5⟩:=h;exact⟨h1,h2,a,c,f.af h3 (by simp[h1,h2]),h4.gJ f (λx hx=>by have:=h5 x hx;simp[this]),h5⟩
theorem KB.rK {w w':World} {b O S p:Nat} {k:Kn} (h:KB w O S p k) (hb:jJ w b) (f:Fr [b] w w'):KB w' O S p k:=by obtain⟨h1,h2,a,c,h3,h4,h5⟩:=h;exact⟨h1,h2,a,c,f.af h3 (by simp;exact hb.ne h3),h4.rK hb f,h5⟩
def KQ (w:World) (O S:Nat):Option Nat->Option Kn->Prop
 | none,none=>True
 | some p,some k=>KB w O S p k
 | _,_=>False
theorem KQ.map {w w':World} {O S:Nat} {q:Option Nat} {r:Option Kn} (h:KQ w O S q r) (m:∀p k,KB w O S p k->KB w' O S p k):KQ w' O S q r:=by
 match q,r,h with
 | none,none,_=>trivial
 | some p,some k,h=>exact m p k h
theorem Dc:Maps.Keyed Tryz.prog 9:=Maps.string_keyed Tryz.underlying9
def Told (w:World) (O S bt N:Nat) (kn:List Kn):Prop:=∃D n,n<=N/\w.ownsMap Tryz.prog 9 pR bt n D/\∀id,Maps.has D (.string id)=true->∃q,D.atKey (.string id) .nil=pD q/\KQ w O S q (j6 kn id)
theorem FR {w w':World} {S:LN} {P:Program} {k:TypeId} {R:Value->Option (DataW Unit×List MemPlace)} {b n:Nat} {D:DataW Unit} (h:w.ownsMap P k R b n D) (f:Fr S w w') (hb:b∉S):w'.ownsMap P k R b n D:=by obtain⟨es,clock,h1,h2⟩:=h;exact⟨es,clock,f.af h1 hb,h2⟩
theorem Told.at_ {w:World} {O S bt N:Nat} {kn:List Kn} (h:Told w O S bt N kn):jJ w bt:=by obtain⟨D,n,_,⟨es,clock,h1,_⟩,_⟩:=h;exact⟨es,clock,h1⟩
theorem Told.fr {w w':World} {O S bt N:Nat} {kn:List Kn} (h:Told w O S bt N kn) (f:Fr [O,S] w w') (hO:bt≠O) (hS:bt≠S):Told w' O S bt N kn:=by obtain⟨D,n,h1,h2,h3⟩:=h;refine⟨D,n,h1,FR h2 f (by simp[hO,hS]),λid hi=>?_⟩;obtain⟨q,k1,k2⟩:=h3 id hi;exact⟨q,k1,k2.map λp k hk=>hk.fr f⟩
theorem Told.mono {w:World} {O S bt N N':Nat} {kn:List Kn} (h:Told w O S bt N kn) (hn:N<=N'):Told w O S bt N' kn:=by obtain⟨D,n,h1,h2,h3⟩:=h;exact⟨D,n,ck h1 hn,h2,h3⟩
theorem Told.put {w w':World} {O S bt n:Nat} {kn:List Kn} {D:DataW Unit} {id:LB} {q:Option Nat} (hm:Maps.IsMap D) (h3:∀id,Maps.has D (.string id)=true->∃q,D.atKey (.string id) .nil=pD q/\KQ w O S q (j6 kn id))
  (hb:jJ w bt) (f:Fr [bt] w w') (h2:w'.ownsMap Tryz.prog 9 pR bt (n+1) (D.put (.string id) (pD q))) (hq:KQ w O S q (j6 kn id)):Told w' O S bt (n+1) kn:=by
 refine⟨_,_,ay _,h2,λid' hi=>?_⟩;by_cases he:id'=id
 ·subst he;refine⟨q,Maps.atKey_put_same hm (by simp[WideAt.IsKeyLit]) _ _,hq.map λp k hk=>hk.rK hb f⟩
 ·have cQ:Lit.string id'≠Lit.string id:=by simp[he]
  rw[Maps.has_put_other cQ]at hi;obtain⟨q',k1,k2⟩:=h3 id' hi;exact⟨q',by rw[Maps.atKey_put_other cQ];exact k1,k2.map λp k hk=>hk.rK hb f⟩
def Got (w:World) (kn:List Kn) (id:LB) (e:Ending) (w':World):Prop:=Fr [] w w'/\match kn.find? λk=>k.id==id with
 | none=>e = .returned (.tuple #[.int .i64 0,.slice none 0 0,.bool false])
 | some k=>∃a c,e = .returned (.tuple #[.int .i64 k.kind,.slice a k.body.length c,.bool true])/\lib.Rd w' a c k.body/\(∀y∈af a,w.heap.size<=y)/\k.body.length<=140737488355200
def jZ (w:World) (T:LN) (gv:Value) (kn:List Kn):Prop:=
 (gv = .nilFunc/\kn=[])\/∃lq cv,gv = .func (.func lq) #[] cv/\(∀args w,(callFunc lq args).run Tryz.prog w = .ok (.enter lq args) w)/\∀id w',id.length<=40->Fr T w w'->Calls Tryz.prog lq (#[.string (str id)]++cv) w' (Got w' kn id)
theorem jZ.fr {w w':World} {T:LN} {gv:Value} {kn:List Kn} (h:jZ w T gv kn) (f:Fr T w w'):jZ w' T gv kn:=by
 rcases h with h|⟨lq,cv,h1,h2,h3⟩
 ·exact .inl h
 ·exact .inr ⟨lq,cv,h1,h2,λid w2 hl f2=>h3 id w2 hl (f.trans f2)⟩
theorem zfw {kn:List Kn} (h:kn.Pairwise λa b=>a.id≠b.id) (id:LB):j6 kn id=match kn.find? λk=>k.id==id with
  | none=>none
  | some k=>if mg k.kind k.body=id then some k else none:=by
 unfold j6;induction kn with
 | nil=>rfl
 | cons k t ih=>
  rw[tq]at h;rw[KM,KM];by_cases he:k.id=id
  ·have e1:(k.id==id)=true:=by simpa using he
   rw[e1];by_cases ho:mg k.kind k.body=id
   ·have e2:(mg k.kind k.body==id)=true:=by simpa using ho
    rw[e2];simp[ho]
   ·have e2:(mg k.kind k.body==id)=false:=by simpa using ho
    rw[e2];simp only[Bool.and_false,if_neg ho];rw[KZ];intro x hx;have:=h.1 x hx;simp;intro LK;exact absurd (he.trans LK.symm) this
  ·have e1:(k.id==id)=false:=by simpa using he
   rw[e1];simp only[KD];exact ih h.2
theorem Iq:Tryz.prog.underlying 94=some (.map 9 144):=by kernel_rfl
theorem Sy (w:World):(zeroValue 144).run Tryz.prog w = .ok (.pointer none) w:=by kernel_rfl
theorem zdw (w:World):(binOp .neq 57 .nilFunc .nilFunc).run Tryz.prog w = .ok (.bool false) w:=by kernel_rfl
theorem zae (lq:FuncId) (cv:AV) (w:World):(binOp .neq 57 (.func (.func lq) #[] cv) .nilFunc).run Tryz.prog w = .ok (.bool true) w:=by kernel_rfl
def Ky (w:World) (O S bt N:Nat) (kn:List Kn) (id:LB) (e:Ending) (w':World):Prop:=Fr [bt] w w'/\Told w' O S bt (N+1) kn/\∃q,e = .returned (pV q)/\KQ w' O S q (j6 kn id)
theorem zdx (g O S bt N:Nat) (gv:Value) (la:OA) (ms:List EM) (C D:AV) (kn:List Kn) (id:LB) (w:World) (h:Rb w g O S gv (.map (some bt)) la ms C D) (ht:Told w O S bt N kn) (hg:jZ w [O,S,bt] gv kn)
  (hd:kn.Pairwise λa b=>a.id≠b.id) (hN:N<=100000000) (hid:id.length<=40) (hp:obj.Pw w) :
  Calls Tryz.prog 81 #[.pointer (some ⟨g,0,none⟩),.string (str id)] w (Ky w O S bt N kn id):=by
 have b3:=cell_of h.box 3;have b4:=cell_of h.box 4;simp only[bF,aT,bP]at b3 b4;have bR:=ht.at_;have u7:=ht;obtain⟨D0,n,hn,aI,aD⟩:=ht;have qM:keyOf Tryz.prog 9 (.string (str id))=some (.string id):=by have:=WideMaps.keyOf_string_mk (P:=Tryz.prog) Tryz.underlying9 (s:=str id) (by rw[quv];unfold maxLen;omega);exact this
 obtain⟨si,mM⟩:=ai (str id);rw[<-mM]at qM ⊢;have hO:=lt_of_block h.ob;have hS:=lt_of_block h.sb;have H:=xT h bR u7 hn aI aD qM mM hd hp hO hS;clear h bR u7 hn aI aD qM mM hO hS;by_cases hh:Maps.has D0 (.string id)=true
 ·obtain⟨q,hq,GF⟩:=H.out.2.2.2.2.2.1 id hh;have HQ:=ak hq GF;have HH:=ah hh;clear hq GF hd hp hg hh;cases q with
  | none=>
   go_enter Tryz.func81,Tryz.ntmps81;go_wp2_with (at_lookup;refine wpList_lookup_own_ok _ rfl _ _ 94 rfl 9 144 Dc Iq pR (Sy _) .nil [] rfl bt n D0 rfl H.out.2.2.2.2.1 _ (.string id) rfl H.out.2.2.2.2.2.2.1 ?_;intro v ps hv;rw[HH.out];obtain⟨q',rfl,vk⟩:=RW hv;obtain rfl:q'=none:=RV ((congrArg Prod.fst vk).symm.trans HQ.out.1);simp only[pV,Option.map_none];clear hv vk);go_ret;exact⟨Fr.refl _ _,H.out.2.2.1.mono (by omega),none,rfl,HQ.out.2⟩
  | some p=>go_enter Tryz.func81,Tryz.ntmps81;go_wp2_with (at_lookup;refine wpList_lookup_own_ok _ rfl _ _ 94 rfl 9 144 Dc Iq pR (Sy _) .nil [] rfl bt n D0 rfl H.out.2.2.2.2.1 _ (.string id) rfl H.out.2.2.2.2.2.2.1 ?_;intro v ps hv;rw[HH.out];obtain⟨q',rfl,vk⟩:=RW hv;obtain rfl:q'=some p:=RV ((congrArg Prod.fst vk).symm.trans HQ.out.1);simp only[pV,Aj];clear hv vk);go_ret;exact⟨Fr.refl _ _,H.out.2.2.1.mono (by omega),some p,rfl,HQ.out.2⟩
 ·have hh':Maps.has D0 (.string id)=false:=by simpa using hh
  have HH:=ah hh';clear hh hh' hd hp;rcases hg with⟨rfl,rfl⟩|⟨lq,cv,rfl,eg,bw⟩
  ·have B8:=zdw;go_enter Tryz.func81,Tryz.ntmps81;go_wp2_with (at_lookup;refine wpList_lookup_own_ok _ rfl _ _ 94 rfl 9 144 Dc Iq pR (Sy _) .nil [] rfl bt n D0 rfl H.out.2.2.2.2.1 _ (.string id) rfl H.out.2.2.2.2.2.2.1 ?_;intro v ps hv;rw[HH.out];obtain⟨q',rfl,vk⟩:=RW hv;obtain rfl:q'=none:=RV ((congrArg Prod.fst vk).symm.trans (Maps.atKey_of_not_has HH.out _));simp only[pV,Option.map_none];clear hv vk);go_ret;exact⟨Fr.refl _ _,H.out.2.2.1.mono (by omega),none,rfl,trivial⟩
  ·have B8:=zae lq cv;have HC:=ah (bw id);rw[<-H.out.2.2.2.2.2.2.2.1]at HC;clear bw;go_enter Tryz.func81,Tryz.ntmps81;go_wp2_with (at_lookup;refine wpList_lookup_own_ok _ rfl _ _ 94 rfl 9 144 Dc Iq pR (Sy _) .nil [] rfl bt n D0 rfl H.out.2.2.2.2.1 _ (.string id) rfl H.out.2.2.2.2.2.2.1 ?_;intro v ps hv;rw[HH.out];obtain⟨q',rfl,vk⟩:=RW hv;obtain rfl:q'=none:=RV ((congrArg Prod.fst vk).symm.trans (Maps.atKey_of_not_has HH.out _));simp only[pV,Option.map_none];clear hv vk);refine (HC.out w hid (Fr.refl _ _)).mono ?_;rintro e w1 ⟨f1,dh⟩;have hn:=H.out.2.2.2.1;have iP:=zfw H.out.2.2.2.2.2.2.2.2.1 id;have lR:∀k,(kn.find? λk=>k.id==id)=some k->k.id=id:=λk hk=>by simpa using List.find?_some hk
   have b4:=f1.cell b4 (by simp);generalize (kn.find? λk=>k.id==id)=R at dh iP lR;have GV:∀wz,Fr [] w wz->∀id,Maps.has D0 (.string id)=true->∃q,D0.atKey (.string id) .nil=pD q/\KQ wz O S q (j6 kn id):=λwz fz id hi=>by obtain⟨q,k1,k2⟩:=H.out.2.2.2.2.2.1 id hi;exact⟨q,k1,k2.map λp k hk=>hk.fr (fz.mono (by simp))⟩
   have cR:∀(wz w4:World) (q:Option Nat),Fr [] w wz->KQ wz O S q (j6 kn id)->w4.ownsMap Tryz.prog 9 pR bt (n+1) (D0.put (.string id) (pD q))->wz.grownBy w4 (some bt)->Ky w O S bt N kn id (.returned (pV q)) w4:=λwz w4 q fz hq ho hg=>by
    have bR:jJ wz bt:=by obtain⟨es,c,hm⟩:=H.out.2.1;exact⟨es,c,fz.af hm (by simp)⟩
    have f4:Fr [bt] wz w4:=(Fr.refl [bt] wz).grown hg (λk e=>.inl (by simp only[eJ]at e;simp[e]));exact⟨(fz.mono (by simp)).trans f4,(Told.put (H.out.2.2.2.2.1.isMap) (GV wz fz) bR f4 ho hq).mono (by omega),q,rfl,hq.map λp k hk=>hk.rK bR f4⟩
   have HF:=ah cR;clear cR GV B8;match R,dh,iP,lR with
   | none,dh,iP,_=>
    subst dh;have HO:=ah (FR H.out.2.2.2.2.1 f1 (by simp));have HZ:=ak f1 iP;clear f1 iP b3 lR;go_wp2_with ((at_mapUpdate;refine wpList_mapUpdate_own _ rfl _ _ _ 94 rfl 9 144 Dc Iq pR bt n D0 rfl HO.out (by unfold maxLen;omega) _ _ (.string id) rfl rfl H.out.2.2.2.2.2.2.1 (pD none) [] (UQ none) ?_;intro w4 lS GI;have H4:=ak lS GI;clear lS GI));go_ret;exact HF.out w1 w4 none HZ.out.1 (by rw[HZ.out.2];trivial) H4.o0 H4.l1
   | some k,dh,iP,lR=>
    obtain⟨ka,kc,rfl,rd,new,hlen⟩:=dh;have B5:=lR k rfl;have xy:=obj.Vg k.kind ka kc k.body w1 rd hlen (H.out.2.2.2.2.2.2.2.2.2.1.fr f1);obtain⟨bl,bQ⟩:=ai k.body.length;obtain⟨sj,BK⟩:=ai (str (mg k.kind k.body));obtain⟨kd,lG⟩:=ai k.kind;rw[<-BK]at xy;rw[<-bQ,<-lG]at xy ⊢;by_cases ho:mg k.kind k.body=id
    ·have gs:(sj.toList==si.toList)=true:=by rw[BK,H.out.2.2.2.2.2.2.2.1,ho];exact beq_self_eq_true _
     have HZ:=oU f1 iP xy rd new B5 bQ lG ho;clear f1 iP b3 lR xy rd new hlen B5 bQ BK lG ho;go_upto_region 6 with (go_at_call 63;refine HZ.out.2.2.1.mono ?_;rintro e w2 ⟨rfl,f2⟩;have H2:=ah f2;clear f2);clear gs;obtain⟨w3,jR⟩:=ai (w2.alloc (Obj.cells #[.int .i64 kd,.slice ka bl kc,.string si,.int .i64 0,.int .u32 0] 34));obtain⟨p,hp⟩:=ai w2.heap.size;rw[<-jR,<-hp];have f3:Fr [] w2 w3:=by rw[jR];exact (Fr.refl [] w2).alloc _
     have ju:w3.heap[p]?=some (.cells #[.int .i64 kd,.slice ka bl kc,.string si,.int .i64 0,.int .u32 0] 34 (0,0)):=by rw[jR,hp];exact bC w2 _
     have b4:=(H2.out.trans f3).cell b4 (by simp);have fz:=HZ.out.1.trans (H2.out.trans f3);have HO:=ah (FR H.out.2.2.2.2.1 fz (by simp));have YW:KB w3 O S p k:=by
      obtain⟨f1,iP,xy,rd,new,B5,bQ,lG,ho⟩:=HZ.out;have s1:=f1.size;have s2:=H2.out.size;have sO:=H.out.2.2.2.2.2.2.2.2.2.2.1;have sS:=H.out.2.2.2.2.2.2.2.2.2.2.2;refine⟨by omega,by omega,ka,kc,?_,rd.fr (H2.out.trans f3),λy hy=>?_⟩
      ·rw[ju];unfold Ok;rw[<-bQ,<-lG,B5,H.out.2.2.2.2.2.2.2.1]
      ·have:=new y hy;exact⟨by omega,by omega⟩
     have hq:KQ w3 O S (some p) (j6 kn id):=by rw[HZ.out.2.1];simp only[if_pos HZ.out.2.2.2.2.2.2.2.2];exact YW
     have HQ:=ak fz hq;clear fz hq YW ju f3 jR hp;go_wp2_with ((at_mapUpdate;refine wpList_mapUpdate_own _ rfl _ _ _ 94 rfl 9 144 Dc Iq pR bt n D0 rfl HO.out (by unfold maxLen;omega) _ _ (.string id) rfl rfl H.out.2.2.2.2.2.2.1 (pD (some p)) [] (UQ (some p)) ?_;intro w4 lS GI;have H4:=ak lS GI;clear lS GI));go_ret;exact HF.out w3 w4 (some p) HQ.out.1 HQ.out.2 H4.o0 H4.l1
    ·have gs:(sj.toList==si.toList)=false:=by rw[BK,H.out.2.2.2.2.2.2.2.1,bh,bh];simpa using ho
     have HZ:=aG f1 iP xy ho;clear f1 iP b3 lR xy rd new hlen B5 bQ BK lG ho;go_upto_region 6 with (go_at_call 63;refine HZ.out.2.2.1.mono ?_;rintro e w2 ⟨rfl,f2⟩;have H2:=ah f2;clear f2);clear gs;have b4:=H2.out.cell b4 (by simp);have fz:=HZ.out.1.trans H2.out;have HO:=ah (FR H.out.2.2.2.2.1 fz (by simp));have hq:KQ w2 O S none (j6 kn id):=by rw[HZ.out.2.1];simp only[if_neg HZ.out.2.2.2];trivial
     have HQ:=ak fz hq;clear fz hq;go_wp2_with ((at_mapUpdate;refine wpList_mapUpdate_own _ rfl _ _ _ 94 rfl 9 144 Dc Iq pR bt n D0 rfl HO.out (by unfold maxLen;omega) _ _ (.string id) rfl rfl H.out.2.2.2.2.2.2.1 (pD none) [] (UQ none) ?_;intro w4 lS GI;have H4:=ak lS GI;clear lS GI));go_ret;exact HF.out w2 w4 none HQ.out.1 HQ.out.2 H4.o0 H4.l1
theorem Xv:∀W:List St,bO W=((List.range W.length).map λi=>(match W[i]? with|some none=>1|_=>0)).sum
 | []=>rfl
 | none::t=>by
  rw[bO,Xv t,bU,List.range_succ_eq_map,gX,vW,Be];simp only[aT,Function.comp_def,bP];omega
 | some x::t=>by rw[bO,Xv t,bU,List.range_succ_eq_map,gX,vW,Be];simp only[aT,Function.comp_def,bP];omega
def MH (w:World) (S c o i:Nat):Nat:=match w.cell? ⟨S,i*c+o,none⟩ with
 | some (.bool false)=>1
 | _=>0
def yZ (w:World) (S c n:Nat):Nat:=((List.range n).map (MH w S c 0)).sum
theorem zfq {w:World} {S c n:Nat} {W:List St} (hl:W.length=n) (h:∀i s,W[i]?=some s->w.cell? ⟨S,i*c,none⟩=some (.bool s.isSome)):yZ w S c n=bO W:=by
 rw[Xv,hl];unfold yZ;congr 1;refine D9 λi hi=>?_
 have iR:i<W.length:=by simp at hi;omega
 have:=h i _ (br iR);rw[br iR];unfold MH;rw[ie,this];cases W[i] with
 | none=>rfl
 | some x=>rfl
theorem S1.done {w:World} {O S:Nat} {C D:AV} {i:Nat} {s:St} (h:S1 w O S C D i s):D[i*4]?=some (.bool s.isSome):=by
 match s,h with
 | none,h=>exact h.1
 | some (.error x),h=>exact h.1
 | some (.ok (o,d)),h=>exact h.1
theorem tY.yZ {w:World} {O S:Nat} {C D:AV} {l:List ek} {W:List St} (h:tY w O S C D l W) (hb:w.heap[S]?=some (.cells D 100 (0,0))):yZ w S 4 l.length=bO W:=
 zfq h.len λi s hs=>by rw[cell_of hb];exact (h.st i s hs).done
theorem quf (l:List ek) (i:Nat) (x:ek):∃sb ok,(∀w:World,(Instr.typeAssert (iV l i x) 98 124 true).run Tryz.prog w = .ok (.tuple #[.string sb,.bool ok]) w)/\((ok=true/\x.kind=7/\sb=str x.base)\/(ok=false/\x.kind≠7)):=by
 unfold iV;by_cases h6:x.kind=6
 ·rw[if_pos h6];exact⟨⟨#[]⟩,false,λ_=>by kernel_rfl,.inr ⟨rfl,by omega⟩⟩
 ·rw[if_neg h6];by_cases h7:x.kind=7
  ·rw[if_pos h7];exact⟨str x.base,true,λ_=>by kernel_rfl,.inl ⟨rfl,h7,rfl⟩⟩
  ·rw[if_neg h7];exact⟨⟨#[]⟩,false,λ_=>by kernel_rfl,.inr ⟨rfl,h7⟩⟩
theorem KQ.no {w:World} {O S:Nat} {q:Option Nat} (h:KQ w O S q none):q=none:=by
 cases q with
 | none=>rfl
 | some p=>exact h.elim
theorem KQ.yes {w:World} {O S:Nat} {q:Option Nat} {k:Kn} (h:KQ w O S q (some k)):∃p,q=some p/\KB w O S p k:=by
 cases q with
 | none=>exact h.elim
 | some p=>exact⟨p,rfl,h⟩
def Ry (w:World) (g O S bt N:Nat) (gv:Value) (la:OA) (ms:List EM) (kn:List Kn) (R:Option (List St)) (e:Ending) (w':World):Prop:=
 Told w' O S bt (N+ms.length) kn/\match R with
 | none=>e = .returned (.bool false)/\Fr [bt] w w'
 | some W2=>e = .returned (.bool true)/\Fr [O,S,bt] w w'/\∃C' D',Rb w' g O S gv (.map (some bt)) la ms C' D'/\tY w' O S C' D' (ms.map (·.1)) W2
theorem zhi (g O S bt N:Nat) (gv:Value) (la:OA) (ms:List EM) (C D:AV) (kn:List Kn) (W:List St) (w:World) (h:Rb w g O S gv (.map (some bt)) la ms C D) (hs:tY w O S C D (ms.map (·.1)) W) (ht:Told w O S bt N kn) (hg:jZ w [O,S,bt] gv kn)
  (hd:kn.Pairwise λa b=>a.id≠b.id) (hN:N<=50000000) (hb:∀m∈ms,m.1.base.length<=40) (hp:∀w',Fr [O,S,bt] w w'->obj.Pw w') :
  Calls Tryz.prog 49 #[.pointer (some ⟨g,0,none⟩)] w (Ry w g O S bt N gv la ms kn (ask (ms.map (·.1)) kn ms.length 0 W)):=by
 obtain⟨n,hn⟩:=ai ms.length;have mC:n<=4096:=by rw[hn];exact h.few
 have b0:=cell_of h.box 0;simp only[bF,aT,bP]at b0;rw[<-hn]at b0;obtain⟨R,hR⟩:=ai (ask (ms.map (·.1)) kn n 0 W);rw[<-hn,<-hR];have bR:=ht.at_;have H:=lv h hs hn hg hd hb hp bR;have HT0:=ak ht hR;clear h hs ht hg hd hb hp hR bR hn;go_enter Tryz.func49,Tryz.ntmps49;go_wp2;go_loopg [12] n (λk s12 wr=>∃i:Nat,s12 = .int .i64 (i:Nat)/\i+k=n/\Fr [bt] w wr/\Told wr O S bt (N+i) kn/\R=ask (ms.map (·.1)) kn k i W);case atStart=>exact⟨0,rfl,by omega,Fr.refl _ _,HT0.o0,HT0.l1⟩
 case round=>
  clear b0;obtain⟨i,rfl,bX,hf,LU,wA⟩:=hrel;by_cases hi:i<n
  ·obtain⟨k,rfl⟩:∃k,gk=k+1:=⟨gk-1,by omega⟩;obtain⟨hR0,mB,hn,hg,hd,hb,hp,bR⟩:=H.out;obtain⟨m,hm⟩:∃m,ms[i]?=some m:=⟨ms[i]'(by omega),br _⟩;have hl:(ms.map (·.1))[i]?=some m.1:=by rw[iM,hm];rfl
   obtain⟨s,hW⟩:∃s,W[i]?=some s:=⟨W[i]'(by rw[mB.len,bW];omega),br _⟩;have Qn:=hR0.rK bR hf;have aH:=mB.rK bR hf;have b2:=cell_of Qn.box 2;simp only[bF,aT,bP]at b2;rw[<-hn]at b2;have lY:=aH.base i m.1 hl;obtain⟨sb,ok,yp,jb⟩:=quf (ms.map (·.1)) i m.1;obtain⟨bV,yH⟩:=ai (iV (ms.map (·.1)) i m.1);rw[<-yH]at yp lY;have y3:wr.cell? ⟨S,i*4+3,none⟩=some bV:=by rw[cell_of Qn.sb];exact lY
   have y0:wr.cell? ⟨S,i*4,none⟩=some (.bool s.isSome):=by rw[cell_of Qn.sb];exact (aH.st i s hW).done
   rw[ask,hl,hW]at wA;have HR:=dk Qn aH hm hW hf LU wA;clear hR0 mB hn hg hd hb hp bR hl Qn aH lY yH hf LU wA hm;cases s with
   | some t=>
    simp only[Option.isSome_some]at y0;clear jb hW;go_wp2;clear y0 y3 b2 yp;go_roundg k;case measure=>omega
    case rel=>exact⟨i+1,rfl,by omega,HR.l2.2.2.1,HR.l2.2.2.2.1.mono (by omega),HR.l2.2.2.2.2⟩
   | none=>
    simp only[Option.isSome_none]at y0;have wA:=HR.l2.2.2.2.2;simp only at wA;rcases jb with⟨rfl,h7,rfl⟩|⟨rfl,h7⟩
    ·rw[if_pos h7]at wA;have qP:=zdx g O S bt (N+i) gv la ms C D kn m.1.base wr HR.o0 HR.l2.2.2.2.1 (H.out.2.2.2.1.fr (HR.l2.2.2.1.mono (by simp))) H.out.2.2.2.2.1 (by omega) (H.out.2.2.2.2.2.1 m (gB HR.l2.1)) (H.out.2.2.2.2.2.2.1 _ (HR.l2.2.2.1.mono (by simp)));obtain⟨sb,lh⟩:=ai (str m.1.base);rw[<-lh]at qP yp;unfold Ky at qP;generalize j6 kn m.1.base=KR at wA qP;cases KR with
     | none=>
      have HX:=ak wA qP;clear wA qP lh h7 hW;go_wp2_with (go_at_call 81;refine HX.l1.mono ?_;rintro e w2 ⟨f2,t2,q,rfl,kq⟩;obtain rfl:=kq.no;have H2:=ak f2 t2;clear f2 t2 kq;simp only[pV,Option.map_none]);clear y0 y3 b2 yp;go_roundg k;case measure=>omega
      case rel=>exact⟨i+1,rfl,by omega,HR.l2.2.2.1.trans H2.out.1,H2.out.2,HX.o0⟩
     | some kk=>
      have HX:=ak wA qP;clear wA qP lh h7 hW;go_upto_region 7 with (go_at_call 81;refine HX.l1.mono ?_;rintro e w2 ⟨f2,t2,q,rfl,kq⟩;obtain⟨p,rfl,kb⟩:=kq.yes;have H2:=aw f2 t2 kb;clear f2 t2 kb kq;simp only[pV,Aj]);clear y0 y3 b2 yp;obtain⟨pO,pS,a,c,dV,di,kN⟩:=H2.out.2.2;have k0:w2.cell? ⟨p,0,none⟩=some (.int .i64 kk.kind):=by rw[cell_of dV];rfl
      have k1:w2.cell? ⟨p,1,none⟩=some (.slice a kk.body.length c):=by rw[cell_of dV];rfl
      have nE:=(HR.o0.rK HR.l2.2.2.2.1.at_ H2.out.1).fr (Fr.av [] w2);have qD:=HR.o1.rK HR.l2.2.2.2.1.at_ H2.out.1;have cR:Calls Tryz.prog 80 #[.pointer (some ⟨g,0,none⟩),.int .i64 i,.int .i64 kk.kind,.slice a kk.body.length c,.int .i64 1] w2.drew _:=
       W6 g O S gv (.map (some bt)) la ms C D i m kk.kind a c kk.body 0 w2.drew nE HR.l2.1 (di.fr (Fr.av [] w2)) kN (by omega) (H.out.2.2.2.2.2.2.1 _ (((HR.l2.2.2.1.trans H2.out.1).mono (by simp)).trans (Fr.av _ w2))) (HR.o1.st i none HR.l2.2.1).2
        (λw' f=>H.out.2.2.2.2.2.2.1 _ ((((HR.l2.2.2.1.trans H2.out.1).mono (by simp)).trans (Fr.av _ w2)).trans (f.mono (λy hy=>.inl (by simp at hy;rcases hy with rfl|rfl<;>simp)))))
      obtain⟨kl,oO⟩:=ai kk.body.length;obtain⟨kd,lG⟩:=ai kk.kind;rw[<-oO,<-lG]at cR;rw[<-oO]at k1;rw[<-lG]at k0;have HY:=aG cR nE qD lG;clear cR nE qD oO lG dV di kN pO pS;go_upto_region 8 with fail;refine uO 10 (by kernel_rfl) (by kernel_rfl) ?_;simp only[uF];repeat (go_big_quiet_step (fail))
      refine wpQuiet_nil ?_;clear k0 k1;go_wp2_with (go_at_call 80;refine HY.out.1.mono ?_;rintro e w3 ⟨rfl,f3,C3,D3,rJ,E7⟩;have H3:=aw f3 rJ E7;clear f3 rJ E7);go_ret;obtain⟨f3,rJ,E7⟩:=H3.out;obtain⟨cR,nE,qD,lG⟩:=HY.out;rw[lG]at E7;have Qi:=H2.out.2.1.at_;have Uc:bt≠O:=kC (Qi.ne (show w2.heap[O]?=_ from nE.ob));have hbS:bt≠S:=kC (Qi.ne (show w2.heap[S]?=_ from nE.sb));have fT:Fr [O,S] w2 w3:=((Fr.av [] w2).mono (by simp)).trans f3;refine⟨(H2.out.2.1.fr fT Uc hbS).mono (by have:=H.out.2.2.1;omega),?_⟩;rw[HX.o0];exact⟨rfl,((HR.l2.2.2.1.trans H2.out.1).mono (by simp)).trans (fT.mono (λy hy=>.inl (by simp at hy;rcases hy with rfl|rfl<;>simp))),C3,D3,rJ,qD.one i _ E7.1 E7.2.1 fT (E7.st (lt_of_block nE.ob) (lt_of_block nE.sb))⟩
    ·rw[if_neg h7]at wA;have HRi:=ah wA;clear wA h7 hW;go_wp2;clear y0 y3 b2 yp;go_roundg k;case measure=>omega
     case rel=>exact⟨i+1,rfl,by omega,HR.l2.2.2.1,HR.l2.2.2.2.1.mono (by omega),HRi.out⟩
  ·obtain rfl:i=n:=by omega
   obtain rfl:gk=0:=by omega
   have HR:=aw hf LU wA;clear hf LU wA;go_wp2;go_ret;refine⟨?_,?_⟩
   ·rw[<-H.out.2.2.1];exact HR.o1
   ·rw[HR.l2];exact⟨rfl,HR.o0⟩
theorem zdn:(Tryz.prog.info? 34).map (λi=>(i.zero,i.size,i.bytes))=some (some (.agg #[.int .i64 0,.slice none 0 0,.string ⟨#[]⟩,.int .i64 0,.int .u32 0]),5,64):=by kernel_rfl
theorem qw0:(Tryz.prog.info? 100).map (λi=>(i.zero,i.size,i.bytes))=some (some (.agg #[.bool false,.int .i64 0,.int .i64 0,.nilIface]),4,40):=by kernel_rfl
theorem Lg (z:AV) (n j:Nat) (h:j<n):(madeCells z n)[j]?=some (z[j%z.size]!):=by rw[tr (by rw[size_madeCells];exact h)];simp[madeCells]
theorem qzg (n:Nat) (h:n<=1000000):∃Z:Array Value,Z.size=n*5/\∀w:World,(Instr.makeSlice 27 (.int .i64 (n:Nat)) (.int .i64 (n:Nat))).run Tryz.prog w = .ok (.slice (some ⟨w.heap.size,0,none⟩) n n) (w.alloc (.cells Z 34)):=by obtain⟨i,hi,hz,hs,hb⟩:=info_parts zdn;refine⟨madeCells (Value.agg #[.int .i64 0,.slice none 0 0,.string ⟨#[]⟩,.int .i64 0,.int .u32 0]).cells (n*5),size_madeCells _ _,λw=>?_⟩;have:=run_make (P:=Tryz.prog) w 27 34 i _ Tryz.underlying27 hi hz .i64 .i64 (n:Nat) (n:Nat) (by omega) (Int.le_refl _) (by rw[hb];omega) (by omega);rw[hs,C9]at this;exact this
theorem qtt (n:Nat) (h:n<=1000000):∃Z:Array Value,Z.size=n*4/\(∀t,t<n->Z[t*4]?=some (.bool false)/\Z[t*4+1]?=some (.int .i64 0)/\Z[t*4+3]?=some .nilIface)/\(∀t,t<n->Z[t*4+2]?=some (.int .i64 0))/\∀w:World,(Instr.makeSlice 93 (.int .i64 (n:Nat)) (.int .i64 (n:Nat))).run Tryz.prog w = .ok (.slice (some ⟨w.heap.size,0,none⟩) n n) (w.alloc (.cells Z 100)):=by
 obtain⟨i,hi,hz,hs,hb⟩:=info_parts qw0;have key:∀t k:Nat,t<n->k<4->(madeCells (Value.agg #[.bool false,.int .i64 0,.int .i64 0,.nilIface]).cells (n*4))[t*4+k]?=some ((#[.bool false,.int .i64 0,.int .i64 0,.nilIface]:AV)[k]!):=λt k ht hk=>by
  rw[Lg _ _ _ (by omega)];have e:(t*4+k)%(Value.agg #[.bool false,.int .i64 0,.int .i64 0,.nilIface]).cells.size=k:=by show (t*4+k)%4=k;omega
  rw[e];rfl
 refine⟨madeCells (Value.agg #[.bool false,.int .i64 0,.int .i64 0,.nilIface]).cells (n*4),size_madeCells _ _,λt ht=>⟨?_,?_,?_⟩,λt ht=>?_,λw=>?_⟩
 ·have:=key t 0 ht (by decide);rw[ie]at this;exact this
 ·exact key t 1 ht (by decide)
 ·exact key t 3 ht (by decide)
 ·exact key t 2 ht (by decide)
 ·have:=run_make (P:=Tryz.prog) w 93 100 i _ Tryz.underlying93 hi hz .i64 .i64 (n:Nat) (n:Nat) (by omega) (Int.le_refl _) (by rw[hb];omega) (by omega);rw[hs,C9]at this;exact this
theorem ym {w W:World} {o1 o2 o3 o4:Go.Obj} (hh:W.heap=(((w.heap.push o1).push o2).push o3).push o4) (h1:W.os=w.os) (h2:W.tape=w.tape) (h3:W.output=w.output) :
  W.heap[w.heap.size]?=some o1/\W.heap[w.heap.size+1]?=some o2/\W.heap[w.heap.size+1+1]?=some o3/\W.heap[w.heap.size+1+1+1]?=some o4/\Fr [] w W:=by
 refine⟨?_,?_,?_,?_,h1,h2,h3,?_,λk hk _=>?_⟩
 ·rw[hh];simp only[MX,Array.size_push];rw[if_neg (by omega),if_neg (by omega),if_neg (by omega),if_pos trivial]
 ·rw[hh];simp only[MX,Array.size_push];rw[if_neg (by omega),if_neg (by omega),if_pos trivial]
 ·rw[hh];simp only[MX,Array.size_push];rw[if_neg (by omega),if_pos trivial]
 ·rw[hh];simp only[MX,Array.size_push];rw[if_pos trivial]
 ·rw[hh];simp;omega
 ·rw[hh];simp only[MX,Array.size_push];rw[if_neg (by omega),if_neg (by omega),if_neg (by omega),if_neg (by omega)]
theorem Bx (w:World) (o1 o2 o3 o4:Go.Obj):((((w.alloc o1).alloc o2).alloc o3).alloc o4).drew.heap[w.heap.size]?=some o1:=(ym (w:=w) (W:=((((w.alloc o1).alloc o2).alloc o3).alloc o4).drew) rfl rfl rfl rfl).1
theorem Bw (w:World) (o1 o2 o3 o4:Go.Obj):((((w.alloc o1).alloc o2).alloc o3).alloc o4).drew.heap[w.heap.size+1]?=some o2:=(ym (w:=w) (W:=((((w.alloc o1).alloc o2).alloc o3).alloc o4).drew) rfl rfl rfl rfl).2.1
theorem Bv (w:World) (o1 o2 o3 o4:Go.Obj):((((w.alloc o1).alloc o2).alloc o3).alloc o4).drew.heap[w.heap.size+1+1]?=some o3:=(ym (w:=w) (W:=((((w.alloc o1).alloc o2).alloc o3).alloc o4).drew) rfl rfl rfl rfl).2.2.1
theorem Bu (w:World) (o1 o2 o3 o4:Go.Obj):((((w.alloc o1).alloc o2).alloc o3).alloc o4).drew.heap[w.heap.size+1+1+1]?=some o4:=(ym (w:=w) (W:=((((w.alloc o1).alloc o2).alloc o3).alloc o4).drew) rfl rfl rfl rfl).2.2.2.1
open huf
theorem IA (aK:List OM):(aK.flatMap oL).length=aK.length*5:=Se oL 5 (λ_=>rfl) aK
theorem qo0 (aK:List OM):∀u∈aK.flatMap oL,u.oneCell'=true:=by intro u hu;obtain⟨m,_,h⟩:=List.mem_flatMap.1 hu;exact RN m u h
structure gU (w:World) (a:OA) (c:Nat) (aK:List OM):Prop where
 cs:Cs w a (aK.flatMap oL)
 le:aK.length<=c
 max:c<=maxLen
 nil:a=none->c=0
 rd:∀m∈aK,lib.Rd w m.2.1 m.2.2 m.1.body
theorem gU.fr {w w':World} {a:OA} {c:Nat} {aK:List OM} (h:gU w a c aK) (f:Fr [] w w'):gU w' a c aK:=⟨h.cs.fr f (by simp),h.le,h.max,h.nil,λm hm=>(h.rd m hm).fr f⟩
theorem gU.cell {w:World} {a:OA} {c:Nat} {aK:List OM} (h:gU w a c aK) {i:Nat} {m:OM} (hi:aK[i]?=some m):∃g o,a=some ⟨g,o,none⟩/\∀j v,(eK m.1 m.2.1 m.2.2)[j]?=some v->w.cell? ⟨g,o+i*5+j,none⟩=some v:=by have hl:=(jq.1 hi).1;obtain⟨g,o,ha,hc⟩:=h.cs.at (by rw[IA];omega);refine⟨g,o,ha,λj v hv=>?_⟩;have hj:j<5:=(IC.1 hv).1;rw[oW];refine hc _ v ?_;rw[Iu oL 5 (λ_=>rfl) aK i m j hi hj];unfold oL;rw[oY];exact hv
def xO (o:Obj):Prop:=obj.fg o.kind≠[]/\o.body.length<=65536/\mg o.kind o.body=o.id
theorem zhe (ao:OA) (cap:Nat) (aK:List OM) (w:World) (h:gU w ao cap aK) (xv:aK.length<=1000000) :
  Calls Tryz.prog 60 #[.slice ao aK.length cap] w λe w'=>∃a2 c2,e = .returned (.slice a2 aK.length c2)/\Made w w' 34 5 a2 aK.length c2 (aK.flatMap oL):=by
 have qT:∀(w:World) (a:OA) (n c n' c':Nat),(binOp .eql 27 (.slice a n c) (.slice none n' c')).run Tryz.prog w = .ok (.bool a.isNone) w:=λw a n c n' c'=>Lib.run_eql_slice_nil w _ _ a n c n' c' Tryz.underlying27
 have hcs:=h.cs;have hle:=h.le;have cz:=h.nil;cases ao with
 | none=>
  have h0:=cz rfl;obtain rfl:aK=[]:=wN (by omega);go_enter Tryz.func60,Tryz.ntmps60;go_wp2;go_ret;exact⟨none,0,rfl,Made.none _ _ _⟩
 | some a=>go_enter Tryz.func60,Tryz.ntmps60;go_wp2_with (refine gM Nk rfl _ _ rfl (.slice (some ⟨w.heap.size,0,none⟩) 0 0) 0 [] [w.heap.size] rfl rfl ⟨rfl,.inr ⟨w.heap.size,0,#[],rfl,ep _,bC _ _,ay _,ep _,rfl,rfl⟩⟩ (some a) aK.length cap (aK.flatMap oL) rfl hle cz (hcs.fr ((Fr.refl [] w).alloc _) (by simp)) (IA aK) (qo0 aK) (by omega) (by unfold maxLen;omega) ?_;intro lM fN w1 A1;simp only[ft,qj]at A1);go_ret;have eG:Fr [] w w1:=((Fr.refl [] w).alloc _).step A1.fr (by simp);refine⟨lM,fN,rfl,A1.own,eG,λx hx=>?_,A1.le,A1.max,A1.nil⟩;have:=A1.at_ x hx;simp at this;omega
theorem qs6 (m:OM) (w:World) (h:xO m.1) (hr:lib.Rd w m.2.1 m.2.2 m.1.body) (hp:obj.Pw w) :
  Calls Tryz.prog 61 #[.agg (eK m.1 m.2.1 m.2.2)] w λe w'=>e = .returned (.bool false)/\Fr [] w w':=by
 obtain⟨⟨kd,bs,id,at_,crc⟩,ba,bc⟩:=m;simp only at h hr;obtain⟨h1,h2,h3⟩:=h;simp only at h1 h2 h3;simp only[eK];have hid:=λw' (f:Fr [] w w')=>obj.Vg kd ba bc bs w' (hr.fr f) (by omega) (hp.fr f)
 rw[h3]at hid;obtain⟨bl,bQ⟩:=ai bs.length;rw[<-bQ]at hid h2 ⊢;obtain⟨si,mM⟩:=ai (str id);rw[<-mM]at hid ⊢;obtain⟨sn,BJ⟩:=ai (str (obj.fg kd));have YG:=λw'=>obj.qvd kd w'
 rw[<-BJ]at YG;have cQ:sn.toList≠[]:=by rw[BJ,bh];exact h1
 have gn:(sn.toList==[])=false:=by simpa using cQ
 have gn2:(sn.toList==(⟨#[]⟩:ByteArray).toList)=false:=by rw[show (⟨#[]⟩:ByteArray).toList=[] from by rw[ByteArray.toList_eq]];exact gn
 have gn3:sn.toList.isEmpty=false:=by simpa using cQ
 have gl:decide ((65536:Int)<(bl:Int))=false:=by simp;omega
 have H:=ak hid YG;clear hid YG h1 h3 BJ mM bQ hr hp cQ;go_enter Tryz.func61,Tryz.ntmps61;go_upto_region 1 with fail;generalize cP:World.alloc _ _=w1;obtain⟨X,hX⟩:=ai w.heap.size;rw[<-hX];have eQ:w1.heap[X]?=some (.cells #[.int .i64 kd,.slice ba bl bc,.string si,.int .i64 at_,.int .u32 crc] 34 (0,0)):=by rw[<-cP,hX];exact bC w _
 have f1:Fr [] w w1:=by rw[<-cP];exact (Fr.refl [] w).alloc _
 have H1:=ak eQ f1;clear cP hX f1;have x0:=cell_of eQ 0;have x1:=cell_of eQ 1;have x2:=cell_of eQ 2;simp only[bF,aT,bP]at x0 x1 x2;clear eQ;have y0:=λx=>(dY [] w1.drew x).cell (show w1.drew.cell? _=_ from x0) (by simp)
 refine j4 21 [(false,0),(false,1),(true,2),(false,3),(false,4),(false,5),(false,6),(false,7),(false,8),(false,9),(false,10),(false,11),(false,12),(false,13),(false,14),(false,16),(false,17),(true,15),(false,18),(false,19),(false,20)] [] (by kernel_rfl) (by kernel_rfl) (λ_ _ d _ _ h=>by cases d<;>exact h) ?_;simp only[jm];refine dT 2 rfl ?_;simp only[bD];repeat (go_big_quiet_step (fail))
 refine wpQuiet_nil ?_;clear y0;refine eT rfl ?_;intro XX Ck;go_wp2_with (go_at_call 62;refine (H.l1 _).mono ?_;rintro e w2 ⟨rfl,f2⟩);refine Ck.out _ _ f2 ?_;clear Ck XX;have H2:=ah ((Fr.av [] w1).trans f2);clear f2;have y0:=λx=>(dY [] w2 x).cell (H2.out.cell x0 (by simp)) (by simp)
 have y1:=λx=>(dY [] w2 x).cell (H2.out.cell x1 (by simp)) (by simp)
 have y2:=λx=>(dY [] w2 x).cell (H2.out.cell x2 (by simp)) (by simp)
 refine dT 14 rfl ?_;simp only[bD];repeat (go_big_quiet_step (fail))
 refine wpQuiet_nil ?_;clear y0 y1 y2 x0 x1 x2;refine eT rfl ?_;intro XX Ck;go_wp2_with (go_at_call 63;refine (H.o0 _ (H1.l1.trans H2.out)).mono ?_;rintro e w3 ⟨rfl,f3⟩);refine Ck.out _ _ f3 ?_;clear Ck XX;have H3:=ah f3;clear f3;refine dT 3 rfl ?_;simp only[bD];repeat (go_big_quiet_step (fail))
 refine wpQuiet_nil ?_;refine ic ?_;go_wp2;go_ret;exact⟨rfl,(H1.l1.trans H2.out).trans H3.out⟩
end pk
end Go.Proofs.YtkmpfgpfbmeihaaGreatDoor
namespace Go.Proofs
open Go.Shelf
def Tryz.lays106_ren:Go.Shelf.Ren:=⟨fun|106=>41|213=>72|265=>109|n=>n,fun|9=>9|3=>3|n=>n,fun|n=>n⟩
theorem Tryz.lays106:Go.Proofs.Lays.n106 Tryz.prog Tryz.lays106_ren:={
 mixed:=by kernel_rfl
 f106:=Tryz.func41.trans (congrArg some (by kernel_rfl))
 f213:=Tryz.func72.trans (congrArg some (by kernel_rfl))
 f265:=Tryz.func109.trans (congrArg some (by kernel_rfl))
 t3:=Tryz.underlying3
 a3:=Tryz.isAgg3
 z3:=Tryz.sizeOf3
 v3:=Tryz.zeroValue3
 t9:=Tryz.underlying9
 a9:=Tryz.isAgg9
 z9:=Tryz.sizeOf9
 v9:=Tryz.zeroValue9 }
end Go.Proofs
namespace Go.Proofs.YtkmpfgpfbmeihaaGreatDoor
namespace os
open Go Go.RowKit lib bm pk
theorem qt9 (a b:LB) (w:World):Calls Tryz.prog 41 #[.string (str a),.string (str b)] w λe w'=>e = .returned (.int .i64 (Lib.compareBytes a b))/\w'=w:=by have:=Any.strings_Compare Tryz.lays106 (str a) (str b) w;exact this
theorem qw4 (bs:LB):∀n:Nat,bs.foldl (λn b=>256*n+b.toNat) n=n*256^bs.length+crc.jH bs:=by
 induction bs with
 | nil=>intro n;simp[crc.jH]
 | cons b t ih=>intro n;unfold crc.jH;rw[DW,DW,ih,ih (256*0+b.toNat),bU,pH];rw[oV,Nat.mul_zero,ft];rw[show 256*n*256^t.length=n*(256^t.length*256) by rw[mf 256 n,uk,mf 256]];omega
theorem ln (b:UInt8) (t:LB):crc.jH (b::t)=b.toNat*256^t.length+crc.jH t:=by have:=qw4 t b.toNat;rw[<-this];unfold crc.jH;rw[DW];simp
theorem qpe:∀a b:List UInt8,a.length=b.length->(Lib.compareBytes a b<0↔crc.jH a<crc.jH b)/\ -1<=Lib.compareBytes a b/\Lib.compareBytes a b<=1
 | [],[],_=>by simp[Lib.compareBytes]
 | [],_::_,h=>by simp at h
 | _::_,[],h=>by simp at h
 | a::s,b::t,h=>by
  have hl:s.length=t.length:=by simpa using h
  obtain⟨i1,i2,i3⟩:=qpe s t hl;have hs:=crc.FA s;have ht:=crc.FA t;rw[<-hl]at ht;rw[ln,ln,<-hl];unfold Lib.compareBytes;generalize 256^s.length=P at *;by_cases h1:a<b
  ·rw[if_pos h1];have h2:a.toNat<b.toNat:=h1;have h3:(a.toNat+1)*P<=b.toNat*P:=uN _ h2;rw[oV]at h3;exact⟨⟨λ_=>by omega,λ_=>by decide⟩,by decide,by decide⟩
  ·rw[if_neg h1];have h2:b.toNat<=a.toNat:=Nat.le_of_not_lt h1;by_cases h4:b<a
   ·rw[if_pos h4];have h5:b.toNat<a.toNat:=h4;have h3:(b.toNat+1)*P<=a.toNat*P:=uN _ h5;rw[oV]at h3;exact⟨⟨λh=>by simp at h,λh=>by omega⟩,by decide,by decide⟩
   ·rw[if_neg h4];have h6:a.toNat=b.toNat:=Nat.le_antisymm (Nat.le_of_not_lt h4) h2;rw[h6];exact⟨⟨λh=>by have:=i1.1 h;omega,λh=>i1.2 (by omega)⟩,i2,i3⟩
theorem qvu:∀a b:List UInt8,a.length=b.length->crc.jH a=crc.jH b->a=b
 | [],[],_,_=>rfl
 | [],_::_,h,_=>by simp at h
 | _::_,[],h,_=>by simp at h
 | a::s,b::t,h,he=>by
  have hl:s.length=t.length:=by simpa using h
  have hs:=crc.FA s;have ht:=crc.FA t;rw[<-hl]at ht;rw[ln,ln,<-hl]at he;have h1:=congrArg (·/256^s.length) he;have h2:=congrArg (·%256^s.length) he;have hp:0<256^s.length:=Nat.pow_pos (by decide);simp only[mf _ (256^s.length),Nat.mul_add_div hp,DY hs,DY ht,ie,Nat.mul_add_mod,x9 hs,x9 ht]at h1 h2;rw[KS.1 h1,qvu s t hl h2]
def gi (k:Int):Nat:=if k=1 then 1 else if k=4 then 2 else if k=2 then 3 else if k=3 then 4 else 5
theorem qyq (k:Int):1<=gi k/\gi k<=5:=by
 unfold gi;split
 ·decide
 ·split
  ·decide
  ·split
   ·decide
   ·split<;>decide
def key (o:pk.Obj):Nat:=gi o.kind*256^40+crc.jH o.id
theorem zh7 {x y:pk.Obj} (hx:x.id.length=40) (hy:y.id.length=40):key x<key y↔gi x.kind<gi y.kind\/(gi x.kind=gi y.kind/\crc.jH x.id<crc.jH y.id):=by
 have h1:=crc.FA x.id;have h2:=crc.FA y.id;rw[hx]at h1;rw[hy]at h2;unfold key;generalize 256^40=P at *;constructor
 ·intro h;rcases Nat.lt_trichotomy (gi x.kind) (gi y.kind) with h3|h3|h3
  ·exact .inl h3
  ·rw[h3]at h;exact .inr ⟨h3,by omega⟩
  ·have h4:(gi y.kind+1)*P<=gi x.kind*P:=uN _ h3;rw[oV]at h4;omega
 ·rintro (h3|⟨h3,h4⟩)
  ·have h4:(gi x.kind+1)*P<=gi y.kind*P:=uN _ h3;rw[oV]at h4;omega
  ·rw[h3];omega
set_option maxRecDepth 100000
theorem qu0 (m:OM) (w:World):Calls Tryz.prog 36 #[.agg (eK m.1 m.2.1 m.2.2)] w λe w'=>e = .returned (.int .i64 (gi m.1.kind:Nat))/\Fr [] w w':=by
 obtain⟨⟨kd,bs,id,at_,crc⟩,ba,bc⟩:=m;simp only[eK];obtain⟨bl,bQ⟩:=ai bs.length;rw[<-bQ];clear bQ;unfold gi;by_cases h1:kd=1
 ·subst h1;go_enter Tryz.func36,Tryz.ntmps36;go_wp2;go_ret;exact⟨rfl,(Fr.refl [] w).alloc _⟩
 have b1:(kd==1)=false:=by simpa using h1
 rw[if_neg h1];by_cases h4:kd=4
 ·subst h4;go_enter Tryz.func36,Tryz.ntmps36;go_wp2;go_ret;exact⟨rfl,(Fr.refl [] w).alloc _⟩
 have b4:(kd==4)=false:=by simpa using h4
 rw[if_neg h4];by_cases h2:kd=2
 ·subst h2;go_enter Tryz.func36,Tryz.ntmps36;go_wp2;go_ret;exact⟨rfl,(Fr.refl [] w).alloc _⟩
 have b2:(kd==2)=false:=by simpa using h2
 rw[if_neg h2];by_cases h3:kd=3
 ·subst h3;go_enter Tryz.func36,Tryz.ntmps36;go_wp2;go_ret;exact⟨rfl,(Fr.refl [] w).alloc _⟩
 have b3:(kd==3)=false:=by simpa using h3
 rw[if_neg h3];go_enter Tryz.func36,Tryz.ntmps36;go_wp2;go_ret;exact⟨rfl,(Fr.refl [] w).alloc _⟩
theorem qzc (x:Int) (w:World):Calls Tryz.prog 71 #[.int .i64 x] w λe w'=>e = .returned (.bool false)/\Fr [] w w':=by
 have h:(x !=x)=false:=by simp
 go_enter Tryz.func71,Tryz.ntmps71;go_wp2;go_ret;exact⟨rfl,Fr.refl [] w⟩
theorem zef (x y:Int) (w:World):Calls Tryz.prog 40 #[.int .i64 x,.int .i64 y] w λe w'=>e = .returned (.int .i64 (if x<y then -1 else if y<x then 1 else 0))/\Fr [] w w':=by
 have H:=ah (qzc x w);have H':=ah (λw'=>qzc y w');by_cases h1:x<y
 ·have g1:decide (x<y)=true:=by simpa using h1
  rw[if_pos h1];clear h1;go_enter Tryz.func40,Tryz.ntmps40;go_wp2_with (go_at_call 71;first|(refine H.out.mono ?_;rintro e w1 ⟨rfl,f1⟩;have H1:=ah f1;clear f1 H)|(refine (H'.out _).mono ?_;rintro e w2 ⟨rfl,f2⟩;have H2:=ah f2;clear f2));go_ret;exact⟨rfl,H1.out.trans H2.out⟩
 rw[if_neg h1];have g1:decide (x<y)=false:=by simpa using h1
 by_cases h2:y<x
 ·have g2:decide (y<x)=true:=by simpa using h2
  rw[if_pos h2];clear h1 h2;go_enter Tryz.func40,Tryz.ntmps40;go_wp2_with (go_at_call 71;first|(refine H.out.mono ?_;rintro e w1 ⟨rfl,f1⟩;have H1:=ah f1;clear f1 H)|(refine (H'.out _).mono ?_;rintro e w2 ⟨rfl,f2⟩;have H2:=ah f2;clear f2));go_ret;exact⟨rfl,H1.out.trans H2.out⟩
 rw[if_neg h2];have g2:decide (y<x)=false:=by simpa using h2
 clear h1 h2;go_enter Tryz.func40,Tryz.ntmps40;go_wp2_with (go_at_call 71;first|(refine H.out.mono ?_;rintro e w1 ⟨rfl,f1⟩;have H1:=ah f1;clear f1 H)|(refine (H'.out _).mono ?_;rintro e w2 ⟨rfl,f2⟩;have H2:=ah f2;clear f2));go_ret;exact⟨rfl,H1.out.trans H2.out⟩
def tX (R:Nat):Value:=.func (.func 39) #[] #[.pointer (some ⟨R,0,none⟩)]
def jk (w:World) (R:Nat):Prop:=w.heap[R]?=some (.cells #[.func (.func 36) #[] #[]] 78 (0,0))
set_option maxRecDepth 100000
theorem zeg (R:Nat) (x y:OM) (w:World) (hR:jk w R) (hx:x.1.id.length=40) (hy:y.1.id.length=40) :
  Calls Tryz.prog 39 #[.agg (eK x.1 x.2.1 x.2.2),.agg (eK y.1 y.2.1 y.2.2),.pointer (some ⟨R,0,none⟩)] w λe w'=>∃r:Int,e = .returned (.int .i64 r)/\(r<0↔key x.1<key y.1)/\ -1<=r/\r<=1/\Fr [] w w':=by
 have hk:=zh7 hx hy;have rx:=qu0 x;have ry:=qu0 y;have lx:=qyq x.1.kind;have ly:=qyq y.1.kind;have rW:=λw'=>zef (gi x.1.kind:Nat) (gi y.1.kind:Nat) w'
 have hcs:=λw'=>qt9 x.1.id y.1.id w'
 have fU:=qpe x.1.id y.1.id (hx.trans hy.symm);unfold jk at hR;obtain⟨⟨kd,bs,id,at_,crc⟩,ba,bc⟩:=x;obtain⟨⟨XP,bs2,XQ,at2,Q0⟩,ba2,bc2⟩:=y;simp only at hk rx ry lx ly rW hcs fU;simp only[eK]at rx ry ⊢;generalize gi kd=p at *;generalize gi XP=q at *;generalize bs.length=bl at *;generalize bs2.length=bl2 at *;generalize Lib.compareBytes id XQ=c at *;obtain⟨si,mM⟩:=ai (str id);obtain⟨sj,BK⟩:=ai (str XQ);rw[<-mM]at rx hcs ⊢;rw[<-BK]at ry hcs ⊢;have H:=dk hR hk rx ry rW hcs fU;clear hR hk rx ry rW hcs fU mM BK hx hy;go_enter Tryz.func39,Tryz.ntmps39;go_upto_region 1 with fail;generalize bL:World.alloc _ _=w2;obtain⟨X,hX⟩:=ai w.heap.size;obtain⟨Y,hY⟩:=ai (X+1);rw[<-hX,<-hY];have kt:w2.heap[X]?=some (.cells #[.int .i64 kd,.slice ba bl bc,.string si,.int .i64 at_,.int .u32 crc] 34 (0,0)):=by rw[<-bL,hX];exact qm _ (bC w _)
 have lb:w2.heap[Y]?=some (.cells #[.int .i64 XP,.slice ba2 bl2 bc2,.string sj,.int .i64 at2,.int .u32 Q0] 34 (0,0)):=by have h:=bC (w.alloc (.cells #[.int .i64 kd,.slice ba bl bc,.string si,.int .i64 at_,.int .u32 crc] 34)) (.cells #[.int .i64 XP,.slice ba2 bl2 bc2,.string sj,.int .i64 at2,.int .u32 Q0] 34);rw[fD,<-hX,<-hY,bL]at h;exact h
 have f2:Fr [] w w2:=by rw[<-bL];exact ((Fr.refl [] w).alloc _).alloc _
 have wh:=f2.af H.out.1 (by simp);have x0:=cell_of kt 0;have x1:=cell_of kt 1;have x2:=cell_of kt 2;have x3:=cell_of kt 3;have x4:=cell_of kt 4;have y0:=cell_of lb 0;have y1:=cell_of lb 1;have y2:=cell_of lb 2;have y3:=cell_of lb 3;have y4:=cell_of lb 4;have r0:=cell_of wh 0;simp only[bF,aT,bP]at x0 x1 x2 x3 x4 y0 y1 y2 y3 y4 r0;have HX:=aw x2 y2 f2;clear bL hX hY kt lb wh f2;have x0:=λx=>(dY [] w2.drew x).cell (show w2.drew.cell? _=_ from x0) (by simp)
 have x1:=λx=>(dY [] w2.drew x).cell (show w2.drew.cell? _=_ from x1) (by simp)
 have x2:=λx=>(dY [] w2.drew x).cell (show w2.drew.cell? _=_ from x2) (by simp)
 have x3:=λx=>(dY [] w2.drew x).cell (show w2.drew.cell? _=_ from x3) (by simp)
 have x4:=λx=>(dY [] w2.drew x).cell (show w2.drew.cell? _=_ from x4) (by simp)
 have y0:=λx=>(dY [] w2.drew x).cell (show w2.drew.cell? _=_ from y0) (by simp)
 have y1:=λx=>(dY [] w2.drew x).cell (show w2.drew.cell? _=_ from y1) (by simp)
 have y2:=λx=>(dY [] w2.drew x).cell (show w2.drew.cell? _=_ from y2) (by simp)
 have y3:=λx=>(dY [] w2.drew x).cell (show w2.drew.cell? _=_ from y3) (by simp)
 have y4:=λx=>(dY [] w2.drew x).cell (show w2.drew.cell? _=_ from y4) (by simp)
 have r0:=λx=>(dY [] w2.drew x).cell (show w2.drew.cell? _=_ from r0) (by simp)
 refine j4 8 [(false,0),(false,1),(false,3),(false,4),(true,2),(true,5),(false,6),(false,7)] [] (by kernel_rfl) (by kernel_rfl) (λ_ _ d _ _ h=>by cases d<;>exact h) ?_;simp only[jm];refine dT 4 rfl ?_;simp only[bD];repeat (go_big_quiet_step (fail))
 refine wpQuiet_nil ?_;clear x0 x1 x2 x3 x4 y0 y1 y2 y3 y4 r0;refine eT rfl ?_;intro K hK;go_wp2_with (go_at_call 36;refine (H.out.2.2.1 _).mono ?_;rintro e w3 ⟨rfl,f3⟩);refine hK.out _ _ f3 ?_;clear hK K;refine eT rfl ?_;intro K hK;go_wp2_with (go_at_call 36;refine (H.out.2.2.2.1 _).mono ?_;rintro e w4 ⟨rfl,f4⟩);refine hK.out _ _ f4 ?_;clear hK K;refine dT 2 rfl ?_;simp only[bD];repeat (go_big_quiet_step (fail))
 refine wpQuiet_nil ?_;refine ic ?_;have f24:=((Fr.av [] w2).trans f3).trans f4;have x2:=f24.cell HX.o0 (by simp);have y2:=f24.cell HX.o1 (by simp);have HF:=ah (HX.l2.trans f24);clear f3 f4 f24;by_cases hpq:p=q
 ·subst hpq;have HP:=ah True.intro;go_wp2_with (go_at_call 41;refine (H.out.2.2.2.2.2.1 _).mono ?_;rintro e w5 ⟨rfl,hw⟩;obtain rfl:=hw.symm);go_ret;obtain⟨c1,c2,c3⟩:=H.out.2.2.2.2.2.2;exact⟨c,rfl,by rw[H.out.2.1,c1];simp,c2,c3,HF.out⟩
 ·have gpq:((p:Int)!=(q:Int))=true:=by simp;omega
  go_wp2_with (go_at_call 40;refine (H.out.2.2.2.2.1 _).mono ?_;rintro e w5 ⟨rfl,f5⟩;have H5:=ah f5;clear f5);all_goals go_ret
  all_goals refine⟨_,rfl,?_,by decide,by decide,HF.out.trans H5.out⟩
  all_goals rw[H.out.2.1]
  all_goals omega
end os

end Go.Proofs.YtkmpfgpfbmeihaaGreatDoor