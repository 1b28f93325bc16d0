/-
  Texts of this proof, one behind the other: RefJ, RefK, RefL, RefM, RefN, RefO, FsR, RefW.
-/
import Derived.Test.YticadfhpolhkeaaGreatDoorQ22
set_option maxHeartbeats 16000000
set_option maxRecDepth 100000
set_option linter.unusedVariables false
set_option linter.unusedSimpArgs false
namespace Go.Proofs.YticadfhpolhkeaaGreatDoor
namespace ob
open Go Go.RowKit lib fs lo pk
set_option maxRecDepth 100000
def vF (w:World) (rs:List Rf) (e:Ending) (w':World):Prop:=∃a,e = .returned (.slice a rs.length rs.length)/\(Cs w' a (rs.flatMap iM)/\∀y∈ag a,w.heap.size<=y)/\Fr [] w w'
theorem RE (R F n M:Nat) (t:Nm->Option (List UInt8)) (lab:Nat->Option Lb) (rs:List Rf) (m:Int) (w:World) (hR:qC w R F) (h:Fs w F n M t lab) (mD:mO t rs) (hm:w.cell? ⟨2,0,none⟩=some (.int .i64 m)) :
  Calls Tryz.prog 53 #[.pointer (some ⟨R,0,none⟩)] w (vF w rs):=by
 have hd:=Pe h;have uX:Calls Tryz.prog 99 #[.pointer (some ⟨F,0,none⟩),.string ⟨#[114,101,102,115,47]⟩] w λe w'=>∃a,e = .returned (.slice a rs.length rs.length)/\Cs w' a ((rs.map (·.1)).map encStr)/\Fr [] w w':=by
  refine (SJ F n M t lab oA w h).mono λe w' ⟨v,ss,he,hl,_,⟨a,hv,hc,_⟩,f⟩=>?_
  have hk:=mD.list ss hl;rw[hk]at hv hc;rw[gx]at hv;exact⟨a,he.trans (congrArg Ending.returned hv),hc,f⟩
 have oX:=λ(i:Nat) (x:Rf) (hx:rs[i]?=some x) (w':World) (f:Fr [] w w')=>(by
  obtain⟨h1,h2,fh,h3⟩:=mD.each x (j5 hx)
  exact zed R F n M t lab x.1 x.2 fh m w' (f.ag hR (by simp)) (h.fr f (by simp)) h1 h2 h3 (f.cell hm (by simp)):Calls Tryz.prog 100 #[.pointer (some ⟨R,0,none⟩),.string (str x.1)] w' λe fK=>e = .returned (.tuple #[.string (str x.2),.bool true])/\Fr [] w' fK)
 have oT:=λw' (f:Fr [] w w')=>qq6 R F n M t lab w' (f.ag hR (by simp)) (h.fr f (by simp)) mD.packed
 have vZ:=λw' a c (hc:yr w' a c rs)=>qs2 a c rs w' hc mD.few
 have ym:=mD.few.1;have c0:=(cell_of hR 0).trans (show _=some (Value.pointer (some ⟨F,0,none⟩)) from rfl);obtain⟨N,hN⟩:=ah rs.length;rw[<-hN]at uX vZ ym;have H:=cU hd uX oX oT vZ hN;have C0:=af c0;clear hd uX oX oT vZ hN h mD hm hR;go_enter Tryz.func53,Tryz.ntmps53;go_upto_block 0 with (first
  | (go_at_call 19;(refine H.out.1.mono ?_;rintro e w1 ⟨rfl,hw⟩;obtain rfl:=hw.symm))
  | (go_at_call 99;(refine H.out.2.1.mono ?_;rintro e w1 ⟨a0,rfl,bR,f1⟩;have H1:=ai bR f1;clear bR f1)))
 clear c0;go_wp2;go_loopg [3,23] N (λk s3 s23 wr=>∃(i:Nat) (b:OA) (q:Nat),s23 = .int .i64 (i:Nat)/\i+k=N/\s3 = .slice b i q/\wr.ownsRow 0 87 2 s3 i ((rs.take i).flatMap iM)/\(∀x∈ag b,w1.heap.size<=x)/\(b=none->q=0)/\Fr [] w1 wr);case atStart=>exact⟨0,none,0,rfl,by omega,rfl,oE _ _ _ _,by simp[ag],λ_=>rfl,Fr.refl _ _⟩
 case round=>
  obtain⟨i,b,q,rfl,cQ,rfl,ho,kY,AO,f⟩:=hrel;have c0:wr.cell? ⟨R,0,none⟩=_:=(H1.out.2.trans f).cell C0.out (by simp);by_cases hi:i<N
  ·obtain⟨k,rfl⟩:∃k,gk=k+1:=⟨gk-1,by omega⟩;obtain⟨x,hx⟩:∃x,rs[i]?=some x:=⟨rs[i]'(by rw[<-H.out.2.2.2.2.2];exact hi),dm _⟩;obtain⟨g,o,hg,hc⟩:=H1.out.1.at (by rw[gx,gx,<-H.out.2.2.2.2.2];omega);subst hg;have d0:=f.cell (hc i (.string (str x.1)) (by rw[qe,qe,hx];rfl)) (by simp);have oX:=H.out.2.2.1 i x hx;obtain⟨z,hz⟩:=ah (str x.1);obtain⟨y,hy⟩:=ah (str x.2);rw[<-hz]at d0 oX;rw[<-hy]at oX;have HR:=lf ho kY f hx hz hy oX AO;clear ho kY f hx hz hy oX hc AO;go_wp2_with (first
    | (go_at_call 100;(refine (HR.out.2.2.2.2.2.2.1 _ (H1.out.2.trans HR.out.2.2.1)).mono ?_;rintro e w2 ⟨rfl,f2⟩;have H2:=af f2;clear f2))
    | (at_builtin;(refine fq YM rfl _ _ rfl (.slice b i q) i ((rs.take i).flatMap iM) (ag b) rfl (cY _ _ _) (dp (dp HR.out.1 H2.out (by simp)) ((Fr.refl [] w2).alloc _) (by simp)) (some ⟨w2.heap.size,0,none⟩) 1 1 [.string z,.string y] rfl (ax _) (by simp) (oC _ _ _ _) rfl (by simp[Value.oneCell']) (by omega) (by unfold maxLen;omega) ?_;intro a3 q3 w3 A3;have H3:=af A3;clear A3)))
   go_roundg k;case measure=>omega
   case rel=>
    obtain⟨ho,kY,f,hx,hz,hy,_,_⟩:=HR.out;have A3:=H3.out;have et:rs.take (i+1)=rs.take i++[x]:=by obtain⟨h1,h2⟩:=nF.1 hx;rw[x7 h1,h2]
    have fa:=(Fr.refl [] w2).alloc (.cells #[.string z,.string y] 87);have f2:=f.trans H2.out;refine⟨i+1,a3,q3,by go_num,by omega,rfl,?_,λv hv=>?_,A3.nil,?_⟩
    ·rw[et,yQ,show [x].flatMap iM=[.string z,.string y] by rw[hz,hy];rfl];exact A3.own
    ·rcases A3.at_ v hv with h|h
     ·exact kY v h
     ·have:=f2.size;have:=fa.size;omega
    ·exact f2.step ((fa.mono (T:=ag b) (by simp)).trans A3.fr) (λv hv=>.inr (kY v hv))
  ·obtain rfl:i=N:=by omega
   obtain rfl:gk=0:=by omega
   have zt:yr wr b q rs:=by
    have e:rs.take i=rs:=by rw[H.out.2.2.2.2.2];exact Ia
    rw[e]at ho;obtain⟨h1,h2⟩:i<=q/\q<=maxLen:=by obtain⟨_,_,e,h1,h2⟩:=um ho;injection e with _ _ e3;rw[e3];exact⟨h1,h2⟩
    exact⟨qm4 ho,by rw[<-H.out.2.2.2.2.2];exact h1,h2,AO⟩
   have HR:=ai zt f;clear zt f ho kY AO;go_wp2_with (go_at_call 101;(refine (H.out.2.2.2.1 _ (H1.out.2.trans HR.out.2)).mono ?_;rintro e w5 ⟨rfl,f5⟩;have H5:=af f5;clear f5));go_loopg [3,44] 0 (λk s3 s44 wq=>s3 = .slice b i q/\s44 = .int .i64 0/\wq=w5);case atStart=>exact⟨rfl,rfl,rfl⟩
   case round=>obtain⟨rfl,rfl,rfl⟩:=hrel;go_wp2_with (go_at_call 102;((with_reducible refine (H.out.2.2.2.2.1 _ _ _ (HR.out.1.fr H5.out (by simp))).mono ?_);rintro e w6 ⟨a6,rfl,c6,f6⟩;have H6:=ai c6 f6;clear c6 f6));go_ret;exact⟨a6,by rw[<-H.out.2.2.2.2.2];rfl,⟨H6.o0.1,λy hy=>bP (((H1.out.2.trans HR.out.2).trans H5.out).size) (H6.o0.2 y hy)⟩,((H1.out.2.trans HR.out.2).trans H5.out).trans H6.l1⟩
set_option maxRecDepth 100000
theorem qpg (R:Nat) (s:ByteArray) (w:World) (ha:Calls Tryz.prog 53 #[.pointer (some ⟨R,0,none⟩)] w (vF w [])) :
  Calls Tryz.prog 20 #[.pointer (some ⟨R,0,none⟩),.string s] w λe w'=>e = .returned (.tuple #[.string ⟨#[]⟩,.bool false])/\Fr [] w w':=by
 have H:=af ha;clear ha;go_enter Tryz.func20,Tryz.ntmps20;go_wp2_with (go_at_call 53;(refine H.out.mono ?_;rintro e w1 ⟨a,rfl,hc,f1⟩;have H1:=af f1;clear f1 hc));go_loopg [11] 0 (λk s11 wr=>s11 = .int .i64 0/\wr=w1);case atStart=>exact⟨rfl,rfl⟩
 case round=>obtain⟨rfl,rfl⟩:=hrel;go_wp2;go_ret2;exact⟨rfl,H1.out⟩
theorem qnj (R:Nat) (x:Rf) (r:List Rf) (hr:r.length<=5) (w:World) (ha:Calls Tryz.prog 53 #[.pointer (some ⟨R,0,none⟩)] w (vF w (x::r))) :
  Calls Tryz.prog 20 #[.pointer (some ⟨R,0,none⟩),.string (str x.1)] w λe w'=>e = .returned (.tuple #[.string (str x.2),.bool true])/\Fr [] w w':=by
 obtain⟨z,hz⟩:=ah (str x.1);obtain⟨y,hy⟩:=ah (str x.2);obtain⟨N,hN⟩:=ah r.length;have ha':Calls Tryz.prog 53 #[.pointer (some ⟨R,0,none⟩)] w λe w'=>∃g o,e = .returned (.slice (some ⟨g,o,none⟩) (N+1) (N+1))/\w'.cell? ⟨g,o,none⟩=some (.string z)/\w'.cell? ⟨g,o+1,none⟩=some (.string y)/\Fr [] w w':=by
  refine ha.mono λe w' ⟨a,he,hc,f⟩=>?_
  obtain⟨g,o,rfl,h⟩:=hc.1.at (by simp[iM]);rw[hz,hy];exact⟨g,o,by rw[he,hN];rfl,h 0 _ rfl,h 1 _ rfl,f⟩
 rw[<-hN]at hr;have H:=af ha';rw[<-hz,<-hy];clear ha ha' hz hy hN;go_enter Tryz.func20,Tryz.ntmps20;go_wp2_with (go_at_call 53;(refine H.out.mono ?_;rintro e w1 ⟨g,o,rfl,d0,d1,f1⟩;have H1:=aq d0 d1 f1;clear f1 d0 d1));have d0:=H1.o0;have d1:=H1.o1;go_loopg [11] 1 (λk s11 wr=>s11 = .int .i64 0/\wr=w1/\k=1);case atStart=>exact⟨rfl,rfl,rfl⟩
 case round=>obtain⟨rfl,rfl,rfl⟩:=hrel;go_wp2;go_ret2;exact⟨rfl,H1.l2.trans ((Fr.refl [] _).alloc _)⟩
theorem zeo (x:Rf) (P:Nat) (w:World) (h:w.cell? ⟨P,0,none⟩=some (.string ⟨#[]⟩)) :
  Calls Tryz.prog 82 #[.agg #[.string (str x.1),.string (str x.2)],.pointer (some ⟨P,0,none⟩)] w λe w'=>e = .returned (.bool false)/\Fr [] w w':=by
 have hp:=λw=>Tryz.strings_HasPrefix (str x.1) ⟨#[]⟩ w
 rw[show Lib.hasPrefix (str x.1).data.toList (⟨#[]⟩:ByteArray).data.toList=true by simp[Lib.hasPrefix]]at hp;have H:=af hp;have h2:(w.alloc (.cells #[.string (str x.1),.string (str x.2)] 87)).cell? ⟨P,0,none⟩=some (.string ⟨#[]⟩):=((Fr.refl [] w).alloc _).cell h (by simp);clear hp h;go_enter Tryz.func82,Tryz.ntmps82;go_wp2_with (go_at_call 17;(refine (H.out _).mono ?_;rintro e w1 ⟨rfl,hw⟩;obtain rfl:=hw.symm));go_ret;exact⟨rfl,(Fr.refl [] w).alloc _⟩
theorem qs6 (rs:List Rf) (a:OA) (P:Nat) (w:World) (hc:Cs w a (rs.flatMap iM)) (hP:w.cell? ⟨P,0,none⟩=some (.string ⟨#[]⟩)) (hl:rs.length<=9) :
  Calls Tryz.prog 143 #[.slice a rs.length rs.length,.func (.func 82) #[] #[.pointer (some ⟨P,0,none⟩)]] w λe w'=>e = .returned (.int .i64 (-1))/\Fr [] w w':=by
 obtain⟨N,hN⟩:=ah rs.length;have H:=aq hc hP hN;rw[<-hN]at hl ⊢;clear hc hP hN;go_enter Tryz.func143,Tryz.ntmps143;go_wp2;go_loopg [8] N (λk s8 wr=>∃i:Nat,s8 = .int .i64 (i:Nat)/\i+k=N/\Fr [] w wr);case atStart=>exact⟨0,rfl,by omega,Fr.refl _ _⟩
 case round=>
  obtain⟨i,rfl,cQ,f⟩:=hrel;by_cases hi:i<N
  ·obtain⟨k,rfl⟩:∃k,gk=k+1:=⟨gk-1,by omega⟩;obtain⟨x,hx⟩:∃x,rs[i]?=some x:=⟨rs[i]'(by rw[<-H.out.2.2];exact hi),dm _⟩;obtain⟨g,o,hg,hc⟩:=H.out.1.at (by rw[Kp,<-H.out.2.2];omega);subst hg;have d0:wr.cell? ⟨g,o+i*2,none⟩=_:=f.cell (hc _ _ (C7 hx).1) (by simp);have d1:wr.cell? ⟨g,o+i*2+1,none⟩=_:=f.cell (by rw[pP];exact hc _ _ (C7 hx).2) (by simp);have F:=af f;clear f hc hx;go_wp2_with (go_at_call 82;go_loud (refine (zeo x P _ (F.out.cell H.out.2.1 (by simp))).mono ?_;rintro e w2 ⟨rfl,f2⟩;have H2:=af f2;clear f2));go_roundg k;case measure=>omega
   case rel=>exact⟨i+1,by go_num,by omega,F.out.trans H2.out⟩
  ·obtain rfl:i=N:=by omega
   obtain rfl:gk=0:=by omega
   go_wp2;go_ret;exact⟨rfl,f⟩
theorem zei (R:Nat) (rs:List Rf) (w:World) (hl:rs.length<=9) (ha:∀w1,Fr [] w w1->Calls Tryz.prog 53 #[.pointer (some ⟨R,0,none⟩)] w1 (vF w1 rs)) :
  Calls Tryz.prog 34 #[.pointer (some ⟨R,0,none⟩),.string ⟨#[]⟩] w (vF w rs):=by
 have hde:∀(w1:World) (a:OA) (P:Nat),Cs w1 a (rs.flatMap iM)->w1.cell? ⟨P,0,none⟩=some (.string ⟨#[]⟩)->Calls Tryz.prog 81 #[.slice a rs.length rs.length,.func (.func 82) #[] #[.pointer (some ⟨P,0,none⟩)]] w1 λe w'=>e = .returned (.slice a rs.length rs.length)/\Fr [] w1 w':=by intro w1 a P hc hP;have H:=af (qs6 rs a P w1 hc hP hl);obtain⟨N,hN⟩:=ah rs.length;rw[<-hN]at H ⊢;clear hc hP ha hN hl;go_enter Tryz.func81,Tryz.ntmps81;go_wp2_with (go_at_call 143;(with_reducible refine H.out.mono ?_);rintro e w2 ⟨rfl,f2⟩;have H2:=af f2;clear f2);go_ret;exact⟨rfl,H2.out⟩
 have H:=aq ha hde hl;obtain⟨w0,kz⟩:=ah (w.alloc (.cells #[.string ⟨#[]⟩] 9));obtain⟨P,hP⟩:=ah w.heap.size;have f0:Fr [] w w0:=by rw[kz];exact (Fr.refl [] w).alloc _
 have b0:w0.heap[P]?=some (.cells #[.string ⟨#[]⟩] 9 (0,0)):=by rw[kz,hP];exact aV w _
 have HW:=aA f0 b0 kz hP;clear ha hde hl f0 b0 kz hP;go_enter Tryz.func34,Tryz.ntmps34;go_upto_region 1 with fail;rw[<-HW.o2,<-HW.l3];go_wp2_with (first
  | (go_at_call 53;(refine (H.out.1 _ HW.o0).mono ?_;rintro e w1 ⟨a,rfl,hc,f1⟩;have H1:=ai hc f1;clear hc f1))
  | (go_at_call 81;(with_reducible refine (H.out.2.1 _ _ _ H1.o0.1 (H1.l1.cell ((cell_of HW.o1 0).trans rfl) (by simp))).mono ?_);rintro e w2 ⟨rfl,f2⟩;have H2:=af f2;clear f2)
  | (go_at_call 80;(with_reducible refine (qq0 _ _ _ _ (ax _) (by have:=H.out.2.2;unfold maxLen;omega)).mono ?_);rintro e w3 ⟨rfl,hw⟩;obtain rfl:=hw.symm))
 go_ret;exact⟨a,rfl,⟨H1.o0.1.fr H2.out (by simp),λy hy=>bP HW.o0.size (H1.o0.2 y hy)⟩,(HW.o0.trans H1.l1).trans H2.out⟩
set_option maxRecDepth 100000
theorem qug (a:OA) (c:Nat) (f:Fn) (b v:AV) (w:World):Calls Tryz.prog 249 #[.slice a 0 c,.func f b v] w λe w'=>e = .returned (.int .i64 (-1))/\w'=w:=by
 go_enter Tryz.func249,Tryz.ntmps249;go_wp2;go_loopg [8] 0 (λk s8 wr=>s8 = .int .i64 0/\wr=w);case atStart=>exact⟨rfl,rfl⟩
 case round=>obtain⟨rfl,rfl⟩:=hrel;go_wp2;go_ret;exact⟨rfl,rfl⟩
theorem qh4 (a:OA) (c:Nat) (f:Fn) (b v:AV) (w:World):Calls Tryz.prog 191 #[.slice a 0 c,.func f b v] w λe w'=>e = .returned (.bool false)/\w'=w:=by go_enter Tryz.func191,Tryz.ntmps191;go_wp2_with (go_at_call 249;(refine (qug _ _ _ _ _ _).mono ?_;rintro e w1 ⟨rfl,hw⟩;obtain rfl:=hw.symm));go_ret;exact⟨rfl,rfl⟩
structure Ch (w:World) (la:OA) (nm old new:Nm):Prop where
 cs:Cs w la [.string (str nm),.string (str old),.string (str new)]
def iD:Nm:=[48,48,48,48,48,48,48,48,48,48,48,48,48,48,48,48,48,48,48,48,48,48,48,48,48,48,48,48,48,48,48,48,48,48,48,48,48,48,48,48]
theorem zcv (la:OA) (lc:Nat) (nm old new:Nm) (fh:List Nm) (m:Int) (w:World) (nn:1<=lc/\lc<=1000) (hc:Ch w la nm old new) (jP:mP nm fh) (hold:old=[]\/old=iD) (bZ:kP new) (DT:new≠iD) (hm:w.cell? ⟨2,0,none⟩=some (.int .i64 m)) :
  Calls Tryz.prog 128 #[.slice la 1 lc,.int .i64 0] w λe w'=>e = .returned (.bool false)/\Fr [] w w':=by
 obtain⟨g,o,rfl,h⟩:=hc.cs.at (by simp);have d0:w.cell? ⟨g,o,none⟩=some (.string (str nm)):=h 0 _ rfl;have d1:w.cell? ⟨g,o+1,none⟩=some (.string (str old)):=h 1 _ rfl;have d2:w.cell? ⟨g,o+2,none⟩=some (.string (str new)):=h 2 _ rfl;have hv:=λw' (f:Fr [] w w')=>KM nm fh jP m w' (f.cell hm (by simp))
 have hh:=λw'=>Au new w' (by rw[bZ.len];decide)
 rw[bZ.hash]at hh;have hz:=λw'=>Au iD w' (by decide)
 rw[show dX iD=true by decide]at hz;obtain⟨Z,hZ⟩:=ah (str nm);obtain⟨J,hJ⟩:=ah (str new);rw[<-hZ]at d0 hv;rw[<-hJ]at d2 hh;have e1:J.toList≠[]:=by rw[hJ,ay];intro e;have:=bZ.len;rw[e]at this;cases this
 have e2:J.toList.isEmpty=false:=by simpa using e1
 have e3:(J.toList==[48,48,48,48,48,48,48,48,48,48,48,48,48,48,48,48,48,48,48,48,48,48,48,48,48,48,48,48,48,48,48,48,48,48,48,48,48,48,48,48])=false:=by rw[hJ,ay];exact (show (new==iD)=false by simpa using DT)
 have H:=aq hv hh hz;have D:=aq d0 d1 d2;clear hv hh h hc hm jP hZ hJ;rcases hold with rfl|rfl
 ·replace d1:w.cell? ⟨g,o+1,none⟩=some (.string ⟨#[]⟩):=d1;clear hz;go_enter Tryz.func128,Tryz.ntmps128;go_wp2_with (first
   | (go_at_call 191;go_loud (refine (qh4 _ _ _ _ _ _).mono ?_;rintro e w1 ⟨rfl,hw⟩;obtain rfl:=hw.symm))
   | (go_at_call 16;go_loud (refine (H.o0 _ ((Fr.refl [] w).alloc _)).mono ?_;rintro e w3 ⟨rfl,f3⟩;have k2:w3.cell? ⟨w.heap.size,1,none⟩=some (.string ⟨#[]⟩):=(f3.cell ((cell_of (aV w _) 1).trans rfl) (by simp));have k3:w3.cell? ⟨w.heap.size,2,none⟩=some (.string J):=(f3.cell ((cell_of (aV w _) 2).trans rfl) (by simp));have H3:=af f3;clear f3))
   | (go_at_call 116;go_loud (refine (H.o1 _).mono ?_;rintro e w4 ⟨rfl,f4⟩;have k4:=(f4.cell k3 (by simp));have H4:=af f4;clear f4)))
  go_ret;exact⟨rfl,(((Fr.refl [] w).alloc _).trans H3.out).trans H4.out⟩
 ·obtain⟨O,hO⟩:=ah (str iD);rw[<-hO]at d1 hz;have g1:O.toList≠[]:=by rw[hO,ay];decide
  have g2:O.toList.isEmpty=false:=by simpa using g1
  have G:=af hz;clear hz hO;go_enter Tryz.func128,Tryz.ntmps128;go_wp2_with (first
   | (go_at_call 191;(refine (qh4 _ _ _ _ _ _).mono ?_;rintro e w1 ⟨rfl,hw⟩;obtain rfl:=hw.symm))
   | (go_at_call 16;(refine (H.o0 _ ((Fr.refl [] w).alloc _)).mono ?_;rintro e w3 ⟨rfl,f3⟩;have k2:w3.cell? ⟨w.heap.size,1,none⟩=some (.string O):=(f3.cell ((cell_of (aV w _) 1).trans rfl) (by simp));have k3:w3.cell? ⟨w.heap.size,2,none⟩=some (.string J):=(f3.cell ((cell_of (aV w _) 2).trans rfl) (by simp));have H3:=af f3;clear f3))
   | (go_at_call 116;first|(with_reducible refine (G.out _).mono ?_;rintro e w4 ⟨rfl,f4⟩;have k4:=(f4.cell k3 (by simp));have H4:=af f4;clear f4)|(with_reducible refine (H.o1 _).mono ?_;rintro e w5 ⟨rfl,f5⟩;have k5:=(f5.cell k4 (by simp));have H5:=af f5;clear f5)))
  go_ret;exact⟨rfl,((((Fr.refl [] w).alloc _).trans H3.out).trans H4.out).trans H5.out⟩
set_option maxRecDepth 100000
def und (a b:Nm):Bool:=Lib.hasPrefix b (a++[47])
theorem qza (a:Nm):str a++(⟨#[47]⟩:ByteArray)=str (a++[47]):=by apply ByteArray.ext;simp[str]
theorem qqg (a b:Nm) (ha:a.length<=1000) (w:World):Calls Tryz.prog 131 #[.string (str a),.string (str b)] w λe w'=>e = .returned (.bool (und a b))/\w'=w:=by
 have hp:=λw=>Tryz.strings_HasPrefix (str b) (str (a++[47])) w
 rw[show Lib.hasPrefix (str b).data.toList (str (a++[47])).data.toList=und a b from rfl,<-qza]at hp;have cZ:(str a).size<=1000:=by rw[aj];exact ha
 obtain⟨X,hX⟩:=ah (str a);obtain⟨Y,hY⟩:=ah (str b);rw[<-hX,<-hY]at hp ⊢;rw[<-hX]at cZ;have H:=af hp;clear hp hX hY;go_enter Tryz.func131,Tryz.ntmps131;go_wp2_with (go_at_call 17;go_loud (refine (H.out _).mono ?_;rintro e w1 ⟨rfl,hw⟩;obtain rfl:=hw.symm));go_ret;exact⟨rfl,rfl⟩
theorem qqz (s nm:Nm) (P:Nat) (w:World) (h1:und s nm=false) (h2:und nm s=false) (hs:s.length<=1000) (hn:nm.length<=1000) (h:w.cell? ⟨P,0,none⟩=some (.string (str nm))) :
  Calls Tryz.prog 130 #[.string (str s),.pointer (some ⟨P,0,none⟩)] w λe w'=>e = .returned (.bool false)/\w'=w:=by
 have k1:=λw=>qqg s nm hs w
 have k2:=λw=>qqg nm s hn w
 rw[h1]at k1;rw[h2]at k2;obtain⟨X,hX⟩:=ah (str s);obtain⟨Y,hY⟩:=ah (str nm);rw[<-hX,<-hY]at k1 k2;rw[<-hY]at h;rw[<-hX];have H:=ai k1 k2;clear k1 k2 hX hY h1 h2;go_enter Tryz.func130,Tryz.ntmps130;go_wp2_with (go_at_call 131;first|(with_reducible refine (H.out.1 _).mono ?_;rintro e w1 ⟨rfl,hw⟩;obtain rfl:=hw.symm)|(with_reducible refine (H.out.2 _).mono ?_;rintro e w1 ⟨rfl,hw⟩;obtain rfl:=hw.symm));go_ret;exact⟨rfl,rfl⟩
theorem qnh (ss:List Nm) (a:OA) (c:Nat) (nm:Nm) (P:Nat) (w:World) (hc:Cs w a (ss.map encStr)) (h:w.cell? ⟨P,0,none⟩=some (.string (str nm))) (hn:nm.length<=1000) (UW:∀s∈ss,und s nm=false/\und nm s=false/\s.length<=1000) (hl:ss.length<=9) :
  Calls Tryz.prog 30 #[.slice a ss.length c,.func (.func 130) #[] #[.pointer (some ⟨P,0,none⟩)]] w λe w'=>e = .returned (.bool false)/\w'=w:=by
 obtain⟨N,hN⟩:=ah ss.length;have k:Calls Tryz.prog 76 #[.slice a N c,.func (.func 130) #[] #[.pointer (some ⟨P,0,none⟩)]] w λe w'=>e = .returned (.int .i64 (-1))/\w'=w:=by
  have H:=aA hc h UW hN;rw[<-hN]at hl;clear hc h UW hN;go_enter Tryz.func76,Tryz.ntmps76;go_wp2;go_loopg [8] N (λk s8 wr=>∃i:Nat,s8 = .int .i64 (i:Nat)/\i+k=N/\wr=w);case atStart=>exact⟨0,rfl,by omega,rfl⟩
  case round=>
   obtain⟨i,rfl,cQ,rfl⟩:=hrel;by_cases hi:i<N
   ·obtain⟨k,rfl⟩:∃k,gk=k+1:=⟨gk-1,by omega⟩;obtain⟨x,hx⟩:∃x,ss[i]?=some x:=⟨ss[i]'(by rw[<-H.out.2.2.2];exact hi),dm _⟩;obtain⟨g,o,hg,hc⟩:=H.out.1.at (by rw[gx,<-H.out.2.2.2];omega);subst hg;have d0:=hc i (.string (str x)) (by rw[qe,hx];rfl);obtain⟨h1,h2,h3⟩:=H.out.2.2.1 x (j5 hx);have HR:=af (qqz x nm P _ h1 h2 h3 hn H.out.2.1);clear hc hx h1 h2;go_wp2_with (go_at_call 130;go_loud (refine HR.out.mono ?_;rintro e w2 ⟨rfl,hw⟩;obtain rfl:=hw.symm));go_roundg k;case measure=>omega
    case rel=>exact⟨i+1,by go_num,by omega,rfl⟩
   ·obtain rfl:i=N:=by omega
    obtain rfl:gk=0:=by omega
    go_wp2;go_ret;exact⟨rfl,rfl⟩
 have H:=af k;rw[<-hN];clear k hc h UW hN;go_enter Tryz.func30,Tryz.ntmps30;go_wp2_with (go_at_call 76;(refine H.out.mono ?_;rintro e w1 ⟨rfl,hw⟩;obtain rfl:=hw.symm));go_ret;exact⟨rfl,rfl⟩
set_option maxRecDepth 100000
theorem qum (nm old new s:Nm) (P:Nat) (w:World) (h:w.cell? ⟨P,0,none⟩=some (.string (str s))) (bg:nm≠s) :
  Calls Tryz.prog 193 #[.agg #[.string (str nm),.string (str old),.string (str new)],.pointer (some ⟨P,0,none⟩)] w λe w'=>e = .returned (.bool false)/\Fr [] w w':=by
 have e1:((str nm).toList==(str s).toList)=false:=by rw[ay,ay];simpa using bg
 have h2:(w.alloc (.cells #[.string (str nm),.string (str old),.string (str new)] 39)).cell? ⟨P,0,none⟩=some (.string (str s)):=((Fr.refl [] w).alloc _).cell h (by simp);obtain⟨X,hX⟩:=ah (str nm);obtain⟨Y,hY⟩:=ah (str s);rw[<-hX,<-hY]at e1;rw[<-hX,<-hY]at h2;rw[<-hX];clear hX hY h bg;go_enter Tryz.func193,Tryz.ntmps193;go_wp2;go_ret;exact⟨rfl,(Fr.refl [] w).alloc _⟩
theorem xM (la:OA) (lc:Nat) (nm old new s:Nm) (P:Nat) (w:World) (hc:Ch w la nm old new) (h:w.cell? ⟨P,0,none⟩=some (.string (str s))) (bg:nm≠s) :
  Calls Tryz.prog 191 #[.slice la 1 lc,.func (.func 193) #[] #[.pointer (some ⟨P,0,none⟩)]] w λe w'=>e = .returned (.bool false)/\Fr [] w w':=by
 have k:Calls Tryz.prog 249 #[.slice la 1 lc,.func (.func 193) #[] #[.pointer (some ⟨P,0,none⟩)]] w λe w'=>e = .returned (.int .i64 (-1))/\Fr [] w w':=by
  obtain⟨g,o,rfl,hh⟩:=hc.cs.at (by simp);have d0:w.cell? ⟨g,o,none⟩=some (.string (str nm)):=hh 0 _ rfl;have d1:w.cell? ⟨g,o+1,none⟩=some (.string (str old)):=hh 1 _ rfl;have d2:w.cell? ⟨g,o+2,none⟩=some (.string (str new)):=hh 2 _ rfl;have HB:=af (qum nm old new s P w h bg);clear hh hc h bg;go_enter Tryz.func249,Tryz.ntmps249;go_wp2;go_loopg [8] 1 (λk s8 wr=>∃i:Nat,s8 = .int .i64 (i:Nat)/\i+k=1/\(i=0->wr=w)/\Fr [] w wr);case atStart=>exact⟨0,rfl,by omega,λ_=>rfl,Fr.refl _ _⟩
  case round=>
   obtain⟨i,rfl,cQ,h0,f⟩:=hrel;by_cases hi:i=0
   ·obtain rfl:gk=0+1:=by omega
    obtain rfl:=h0 hi;subst hi;clear h0 f;go_wp2_with (go_at_call 193;go_loud (refine HB.out.mono ?_;rintro e w2 ⟨rfl,f2⟩;have H2:=af f2;clear f2));go_roundg 0;case measure=>omega
    case rel=>exact⟨1,rfl,by omega,(λh=>by cases h),H2.out⟩
   ·obtain rfl:i=1:=by omega
    obtain rfl:gk=0:=by omega
    clear h0;go_wp2;go_ret;exact⟨rfl,f⟩
 have H:=af k;clear k hc h bg;go_enter Tryz.func191,Tryz.ntmps191;go_wp2_with (go_at_call 249;(refine H.out.mono ?_;rintro e w1 ⟨rfl,f1⟩;have H1:=af f1;clear f1));go_ret;exact⟨rfl,H1.out⟩
def G0 (w:World) (ss:List Nm) (e:Ending) (w':World):Prop:=∃b q,e = .returned (.slice b ss.length q)/\Cs w' b (ss.map encStr)/\Fr [] w w'
theorem qya (rs:List Rf) (ra la:OA) (rc lc:Nat) (nm old new:Nm) (w:World) (hr:Cs w ra (rs.flatMap iM)) (hc:Ch w la nm old new) (bg:∀x∈rs,nm≠x.1) (hl:rs.length<=5) (bZ:new≠[]) :
  Calls Tryz.prog 129 #[.slice ra rs.length rc,.slice la 1 lc] w (G0 w (rs.map (·.1)++[nm])):=by
 obtain⟨N,hN⟩:=ah rs.length;have H:=aA hr hc bg hN;have HN:=af bZ;rw[<-hN]at hl ⊢;clear hr hc bg hN bZ;go_enter Tryz.func129,Tryz.ntmps129;go_wp2;go_loopg [5,12] N (λk s5 s12 wr=>∃(i:Nat) (b:OA) (q:Nat),s12 = .int .i64 (i:Nat)/\i+k=N/\s5 = .slice b i q/\wr.ownsRow 0 9 1 s5 i (((rs.take i).map (·.1)).map encStr)/\(∀x∈ag b,w.heap.size<=x)/\Fr [] w wr);case atStart=>exact⟨0,none,0,rfl,by omega,rfl,oE _ _ _ _,by simp[ag],Fr.refl _ _⟩
 case round=>
  obtain⟨i,b,q,rfl,cQ,rfl,ho,kY,f⟩:=hrel;by_cases hi:i<N
  ·obtain⟨k,rfl⟩:∃k,gk=k+1:=⟨gk-1,by omega⟩;obtain⟨x,hx⟩:∃x,rs[i]?=some x:=⟨rs[i]'(by rw[<-H.out.2.2.2];exact hi),dm _⟩;obtain⟨g,o,hg,hc⟩:=H.out.1.at (by rw[Kp,<-H.out.2.2.2];omega);subst hg;have d0:wr.cell? ⟨g,o+i*2,none⟩=_:=f.cell (hc _ _ (C7 hx).1) (by simp);have d1:wr.cell? ⟨g,o+i*2+1,none⟩=_:=f.cell (by rw[pP];exact hc _ _ (C7 hx).2) (by simp);have fa:Fr [] wr (wr.alloc (.cells #[.string (str x.1),.string (str x.2)] 87)):=(Fr.refl [] wr).alloc _;have HB:=xM la lc nm old new x.1 wr.heap.size (wr.alloc (.cells #[.string (str x.1),.string (str x.2)] 87)) ⟨H.out.2.1.cs.fr (f.trans fa) (by simp)⟩ ((cell_of (aV wr _) 0).trans rfl) (H.out.2.2.1 x (j5 hx));obtain⟨z,hz⟩:=ah (str x.1);obtain⟨y,hy⟩:=ah (str x.2);rw[<-hz]at d0;rw[<-hy]at d1;rw[<-hz,<-hy]at HB fa;have HR:=eW ho kY f hx hz HB fa;clear ho kY f hx hz hy hc HB fa;go_wp2_with (first
    | (go_at_call 191;go_loud ((with_reducible refine HR.out.2.2.2.2.2.1.mono ?_);rintro e w2 ⟨rfl,f2⟩;have k2:w2.cell? ⟨wr.heap.size,0,none⟩=some (.string z):=(f2.cell ((cell_of (aV wr _) 0).trans rfl) (by simp));have H2:=af f2;clear f2))
    | (at_builtin;go_loud (refine fq xT rfl _ _ rfl (.slice b i q) i (((rs.take i).map (·.1)).map encStr) (ag b) rfl (cY _ _ _) (dp (dp HR.out.1 (HR.out.2.2.2.2.2.2.trans H2.out) (by simp)) ((Fr.refl [] w2).alloc _) (by simp)) (some ⟨w2.heap.size,0,none⟩) 1 1 [.string z] rfl (ax _) (by simp) (oC _ _ _ _) rfl (by simp[Value.oneCell']) (by omega) (by unfold maxLen;omega) ?_;intro a3 q3 w3 A3;have H3:=af A3;clear A3)))
   go_roundg k;case measure=>omega
   case rel=>
    obtain⟨ho,kY,f,hx,hz,_,fa⟩:=HR.out;have A3:=H3.out;have et:rs.take (i+1)=rs.take i++[x]:=by obtain⟨h1,h2⟩:=nF.1 hx;rw[x7 h1,h2]
    have fb:=(Fr.refl [] w2).alloc (.cells #[.string z] 9);have f2:=f.trans (fa.trans H2.out);refine⟨i+1,a3,q3,by go_num,by omega,rfl,?_,λv hv=>?_,?_⟩
    ·rw[et,jd,jd,show ([x].map (·.1)).map encStr=[.string z] by rw[hz];rfl];exact A3.own
    ·rcases A3.at_ v hv with h|h
     ·exact kY v h
     ·have:=f2.size;have:=fb.size;omega
    ·exact f2.step ((fb.mono (T:=ag b) (by simp)).trans A3.fr) (λv hv=>.inr (kY v hv))
  ·obtain rfl:i=N:=by omega
   obtain rfl:gk=0:=by omega
   rw[show rs.take i=rs by rw[H.out.2.2.2];exact Ia]at ho;obtain⟨g,o,hg,hc⟩:=H.out.2.1.cs.at (by simp);subst hg;have d0:wr.cell? ⟨g,o,none⟩=_:=f.cell (hc 0 _ rfl) (by simp);have d1:wr.cell? ⟨g,o+1,none⟩=_:=f.cell (hc 1 _ rfl) (by simp);have d2:wr.cell? ⟨g,o+2,none⟩=_:=f.cell (hc 2 _ rfl) (by simp);have e1:(str new).toList≠[]:=by rw[ay];exact HN.out
   have e2:(str new).toList.isEmpty=false:=by simpa using e1
   obtain⟨z,hz⟩:=ah (str nm);obtain⟨y,hy⟩:=ah (str old);obtain⟨x,hx⟩:=ah (str new);rw[<-hz]at d0;rw[<-hy]at d1;rw[<-hx]at d2 e1 e2;have HR:=aA ho kY f hz;have D:=aq d0 d1 d2;clear ho kY f hz hy hx hc d0 d1 d2;go_wp2;go_loopg [5,28] 1 (λk s5 s28 wq=>∃j:Nat,s28 = .int .i64 (j:Nat)/\j+k=1/\(j=0->s5 = .slice b i q/\wq=wr)/\(j=1->∃b' q',s5 = .slice b' (i+1) q'/\Cs wq b' (rs.map (λx=>encStr x.1)++[.string z])/\Fr [] w wq));case atStart=>exact⟨0,rfl,by omega,λ_=>⟨rfl,rfl⟩,λh=>by cases h⟩
   case round=>
    obtain⟨j,rfl,fP,h0,h1⟩:=hrel;by_cases hj:j=0
    ·obtain rfl:gk=0+1:=by omega
     obtain⟨rfl,rfl⟩:=h0 hj;subst hj;have d0:=D.o0;have d1:=D.o1;have d2:=D.l2;clear h0 h1;go_wp2_with (at_builtin;go_loud (refine fq xT rfl _ _ rfl (.slice b i q) i ((rs.map (·.1)).map encStr) (ag b) rfl (cY _ _ _) (dp HR.out.1 (((Fr.refl [] wr).alloc _).alloc _) (by simp)) (some ⟨wr.heap.size+1,0,none⟩) 1 1 [.string z] rfl (ax _) (by simp) (by rw[<-ik wr];exact oC _ _ _ _) rfl (by simp[Value.oneCell']) (by omega) (by unfold maxLen;omega) ?_;intro a3 q3 w3 A3;have H3:=af A3;clear A3));go_roundg 0;case measure=>omega
     case rel=>
      refine⟨1,rfl,by omega,(λh=>by cases h),λ_=>⟨a3,q3,rfl,?_,?_⟩⟩
      ·have:=qK H3.out.own;rwa [Ew]at this
      ·have fb:=((Fr.refl [] wr).alloc (.cells #[.string z,.string y,.string x] 39)).alloc (.cells #[.string z] 9);exact HR.out.2.2.1.step ((fb.mono (T:=ag b) (by simp)).trans H3.out.fr) (λv hv=>.inr (HR.out.2.1 v hv))
    ·obtain rfl:j=1:=by omega
     obtain rfl:gk=0:=by omega
     obtain⟨b',q',rfl,hcs,f⟩:=h1 rfl;clear h0 h1;have HF:=ai hcs f;clear hcs f;go_wp2;go_ret;refine⟨b',q',?_,?_,HF.l1⟩
     ·rw[aG,gx,<-H.out.2.2.2];rfl
     ·rw[jd,Ew];have:=HF.o0;rw[HR.out.2.2.2]at this;exact this
set_option maxRecDepth 100000
structure Fits (rs:List Rf) (nm old new:Nm) (fh:List Nm):Prop where
 jP:mP nm fh
 hold:old=[]\/old=iD
 bZ:kP new
 nz:new≠iD
 ne:∀x∈rs,nm≠x.1
 kA:∀s∈rs.map (·.1)++[nm],und s nm=false/\und nm s=false/\s.length<=1000
 few:rs.length<=5
theorem qw1 (R:Nat) (rs:List Rf) (ra la:OA) (rc lc:Nat) (nm old new:Nm) (fh:List Nm) (m:Int) (w:World) (nn:1<=lc/\lc<=1000) (hr:Cs w ra (rs.flatMap iM)) (hc:Ch w la nm old new) (hf:Fits rs nm old new fh) (hm:w.cell? ⟨2,0,none⟩=some (.int .i64 m)) :
  Calls Tryz.prog 71 #[.pointer (some ⟨R,0,none⟩),.slice ra rs.length rc,.slice la 1 lc] w λe w'=>e = .returned (.tuple #[.int .i64 0,.int .i64 0])/\Fr [] w w':=by
 have tk:=λw' (f:Fr [] w w')=>zcv la lc nm old new fh m w' nn ⟨hc.cs.fr f (by simp)⟩ hf.jP hf.hold hf.bZ hf.nz (f.cell hm (by simp))
 have yg:=λw' (f:Fr [] w w')=>qya rs ra la rc lc nm old new w' (hr.fr f (by simp)) ⟨hc.cs.fr f (by simp)⟩ hf.ne hf.few (by intro e;have:=hf.bZ.len;rw[e]at this;cases this)
 have sD:=λw' (b:OA) (q P:Nat) (hb:Cs w' b ((rs.map (·.1)++[nm]).map encStr)) (hP:w'.cell? ⟨P,0,none⟩=some (.string (str nm)))=>qnh (rs.map (·.1)++[nm]) b q nm P w' hb hP (by have:=hf.jP.len;omega) hf.kA (by rw[aG,gx];have:=hf.few;simp;omega)
 have tI:(rs.map (·.1)++[nm]).length=rs.length+1:=by rw[aG,gx];rfl
 rw[tI]at sD;obtain⟨N,hN⟩:=ah rs.length;have hl:=hf.few;rw[<-hN]at yg sD hl ⊢;obtain⟨g,o,rfl,h⟩:=hc.cs.at (by simp);have d0:w.cell? ⟨g,o,none⟩=some (.string (str nm)):=h 0 _ rfl;have d1:w.cell? ⟨g,o+1,none⟩=some (.string (str old)):=h 1 _ rfl;have d2:w.cell? ⟨g,o+2,none⟩=some (.string (str new)):=h 2 _ rfl;obtain⟨Z,hZ⟩:=ah (str nm);obtain⟨J,hJ⟩:=ah (str new);have e1:J.toList≠[]:=by rw[hJ,ay];intro e;have:=hf.bZ.len;rw[e]at this;cases this
 have e2:J.toList.isEmpty=false:=by simpa using e1
 rw[<-hZ]at d0 sD;rw[<-hJ]at d2;have H:=eW tk yg sD hr hf.ne hN hZ;have D:=aq d0 d1 d2;have E:=ai e1 e2;have HO:=af hf.hold;clear tk yg sD hr hf hN hZ hJ h hc hm d0 d1 d2 e1 e2 tI;go_enter Tryz.func71,Tryz.ntmps71;go_wp2;go_loopg [19] 1 (λk s19 wr=>∃j:Nat,s19 = .int .i64 (j:Nat)/\j+k=1/\Fr [] w wr);case atStart=>exact⟨0,rfl,by omega,Fr.refl _ _⟩
 case round=>
  obtain⟨j,rfl,fP,f⟩:=hrel;by_cases hj:j=0
  ·obtain rfl:gk=0+1:=by omega
   subst hj;have F:=af f;clear f;go_wp2_with (go_at_call 128;go_loud (refine (H.out.1 _ F.out).mono ?_;rintro e w2 ⟨rfl,f2⟩;have H2:=af f2;clear f2));go_roundg 0;case measure=>omega
   case rel=>exact⟨1,rfl,by omega,F.out.trans H2.out⟩
  ·obtain rfl:j=1:=by omega
   obtain rfl:gk=0:=by omega
   obtain⟨w1,aJ⟩:=ah wr;rw[<-aJ]at f ⊢;have F:=af f;clear f aJ fP hj;go_wp2;go_loopg [29] 1 (λk s29 wr=>∃j:Nat,s29 = .int .i64 (j:Nat)/\j+k=1/\Fr [] w wr);case atStart=>exact⟨0,rfl,by omega,F.out⟩
   case round=>
    obtain⟨j,rfl,fP,f⟩:=hrel;by_cases hj:j=0
    ·obtain rfl:gk=0+1:=by omega
     subst hj;have d0:wr.cell? ⟨g,o,none⟩=_:=f.cell D.o0 (by simp);have d1:wr.cell? ⟨g,o+1,none⟩=_:=f.cell D.o1 (by simp);have d2:wr.cell? ⟨g,o+2,none⟩=_:=f.cell D.l2 (by simp);have F2:=af f;clear f fP;go_wp2;obtain⟨w3,tq⟩:=ah (wr.alloc (.cells #[.string Z,.string (str old),.string J] 39));obtain⟨P,hP⟩:=ah wr.heap.size;have b3:w3.heap[P]?=some (.cells #[.string Z,.string (str old),.string J] 39 (0,0)):=by rw[tq,hP];exact aV wr _
     have f3:Fr [] w w3:=by rw[tq];exact F2.out.trans ((Fr.refl [] wr).alloc _)
     rw[<-tq,<-hP];have H3:=ai b3 f3;clear tq hP b3 f3 d0 d1 d2;go_loopg [11,36] N (λk s11 s36 wr=>∃i:Nat,s36 = .int .i64 (i:Nat)/\i+k=N/\s11 = .string ⟨#[48,48,48,48,48,48,48,48,48,48,48,48,48,48,48,48,48,48,48,48,48,48,48,48,48,48,48,48,48,48,48,48,48,48,48,48,48,48,48,48]⟩/\Fr [] w3 wr);case atStart=>exact⟨0,rfl,by omega,rfl,Fr.refl _ _⟩
     case round=>
      obtain⟨i,rfl,cQ,rfl,f⟩:=hrel;have p0:wr.cell? ⟨P,0,none⟩=some (.string Z):=f.cell ((cell_of H3.o0 0).trans rfl) (by simp);by_cases hi:i<N
      ·obtain⟨k,rfl⟩:∃k,gk=k+1:=⟨gk-1,by omega⟩;obtain⟨x,hx⟩:∃x,rs[i]?=some x:=⟨rs[i]'(by rw[<-H.out.2.2.2.2.2.1];exact hi),dm _⟩;obtain⟨ga,oa,hg,hc⟩:=H.out.2.2.2.1.at (by rw[Kp,<-H.out.2.2.2.2.2.1];omega);subst hg;have fw:Fr [] w wr:=H3.l1.trans f;have d0:wr.cell? ⟨ga,oa+i*2,none⟩=_:=fw.cell (hc _ _ (C7 hx).1) (by simp);have d1:wr.cell? ⟨ga,oa+i*2+1,none⟩=_:=fw.cell (by rw[pP];exact hc _ _ (C7 hx).2) (by simp);have p1:(wr.alloc (.cells #[.string (str x.1),.string (str x.2)] 87)).cell? ⟨P,0,none⟩=some (.string Z):=((Fr.refl [] wr).alloc _).cell p0 (by simp);obtain⟨z,hz⟩:=ah (str x.1);obtain⟨y,hy⟩:=ah (str x.2);have e3:(z.toList==Z.toList)=false:=by rw[hz,H.out.2.2.2.2.2.2,ay,ay];have:=H.out.2.2.2.2.1 x (j5 hx);simpa using λe=>this e.symm
       rw[<-hz]at d0 p1;rw[<-hy]at d1 p1;have HR:=af f;clear f fw hx hz hy hc;go_wp2;go_roundg k;case measure=>omega
       case rel=>exact⟨i+1,by go_num,by omega,rfl,HR.out.alloc _⟩
      ·obtain rfl:i=N:=by omega
       obtain rfl:gk=0:=by omega
       have p1:wr.cell? ⟨P,1,none⟩=some (.string (str old)):=f.cell ((cell_of H3.o0 1).trans rfl) (by simp);have HR:=af f;clear f;rcases HO.out with hold|hold
       ·rw[hold]at p1;replace p1:wr.cell? ⟨P,1,none⟩=some (.string ⟨#[]⟩):=p1;go_wp2;go_roundg 0;case measure=>omega
        case rel=>exact⟨1,rfl,by omega,H3.l1.trans HR.out⟩
       ·rw[hold]at p1;obtain⟨O,hO⟩:=ah (str iD);rw[<-hO]at p1;have g1:O.toList≠[]:=by rw[hO,ay];decide
        have g2:O.toList.isEmpty=false:=by simpa using g1
        have g3:(O.toList==[48,48,48,48,48,48,48,48,48,48,48,48,48,48,48,48,48,48,48,48,48,48,48,48,48,48,48,48,48,48,48,48,48,48,48,48,48,48,48,48])=true:=by rw[hO,ay];decide
        have HOO:=af hO;clear hO hold;go_wp2;go_roundg 0;case measure=>omega
        case rel=>exact⟨1,rfl,by omega,H3.l1.trans HR.out⟩
    ·obtain rfl:j=1:=by omega
     obtain rfl:gk=0:=by omega
     obtain⟨w4,jO⟩:=ah wr;rw[<-jO]at f ⊢;have F4:=af f;clear f jO fP hj;go_wp2_with (go_at_call 129;go_loud ((with_reducible refine (H.out.2.1 _ F4.out).mono ?_);rintro e w5 ⟨b,q,rfl,vo,f5⟩;have Jk:(rs.map (·.1)++[nm]).length=N+1:=(by rw[aG,gx,<-H.out.2.2.2.2.2.1];rfl);rw[Jk];have H5:=ai vo f5;clear vo f5 Jk));go_loopg [64] 1 (λk s64 wr=>∃j:Nat,s64 = .int .i64 (j:Nat)/\j+k=1/\Fr [] w5 wr);case atStart=>exact⟨0,rfl,by omega,Fr.refl _ _⟩
     case round=>
      obtain⟨j,rfl,fP,f⟩:=hrel;by_cases hj:j=0
      ·obtain rfl:gk=0+1:=by omega
       subst hj;have fw:Fr [] w wr:=(F4.out.trans H5.l1).trans f;have d0:wr.cell? ⟨g,o,none⟩=_:=fw.cell D.o0 (by simp);have d1:wr.cell? ⟨g,o+1,none⟩=_:=fw.cell D.o1 (by simp);have d2:wr.cell? ⟨g,o+2,none⟩=_:=fw.cell D.l2 (by simp);have e1:=E.o0;have e2:=E.l1;have fa:Fr [] wr (wr.alloc (.cells #[.string Z,.string (str old),.string J] 39)):=(Fr.refl [] wr).alloc _;have HC:=H.out.2.2.1 (wr.alloc (.cells #[.string Z,.string (str old),.string J] 39)) b q wr.heap.size (H5.o0.fr (f.trans fa) (by simp)) ((cell_of (aV wr _) 0).trans rfl);have F6:=aq f HC fa;clear f fP fw HC fa;go_wp2_with (go_at_call 30;go_loud ((with_reducible refine F6.out.2.1.mono ?_);rintro e w7 ⟨rfl,hw⟩;obtain rfl:=hw.symm));go_roundg 0;case measure=>omega
       case rel=>exact⟨1,rfl,by omega,F6.out.1.trans F6.out.2.2⟩
      ·obtain rfl:j=1:=by omega
       obtain rfl:gk=0:=by omega
       have F6:=af f;clear f;go_wp2;go_ret2;exact⟨rfl,(F4.out.trans H5.l1).trans F6.out⟩
end ob
namespace fs
open Go Go.RowKit lib pk
set_option maxRecDepth 100000
theorem qxg {w:World} {B n:Nat} {g:Nm->Option Nat} (h:Names w B n g):Names w B (n+1) g:=by obtain⟨D,h1,h2⟩:=h;exact⟨D,h1.mono (by omega),h2⟩
theorem qqy (B n:Nat) (g:Nm->Option Nat) (k:Nm) (w:World) (hN:Names w B n g) (hk:lF k) :
  Calls Tryz.prog 441 #[.agg #[.string (str k)],.map (some B)] w λe w'=>e = .returned (.tuple #[])/\Names w' B (n+1) (set g k none)/\Fr [B] w w':=by
 have f1:Fr [] w (w.alloc (.cells #[.string (str k)] 292)):=(Fr.refl [] w).alloc _;have hb:=aV w (.cells #[.string (str k)] 292);obtain⟨X,hX⟩:=ah w.heap.size;obtain⟨w1,aJ⟩:=ah (w.alloc (.cells #[.string (str k)] 292));rw[<-aJ,<-hX]at hb;rw[<-aJ]at f1;have xE:=hN.fr f1 (by simp);have c0:w1.cell? ⟨X,0,none⟩=some (.string (str k)):=by rw[cell_of hb];rfl
 obtain⟨w3,Gj,Ny,f3⟩:=xE.drop k (by have:=hk.2.1;omega) 0;obtain⟨z,hz⟩:=ah (str k);rw[<-hz]at c0 aJ Gj ⊢;have H:=aA (qxg Ny) ((f1.mono (T:=[B]) (by simp)).trans f3) hX aJ;clear hN xE Ny f1 f3 hb hX aJ hz hk;go_enter Tryz.func441,Tryz.ntmps441;go_upto_region 1 with fail;rw[<-H.o2,<-H.l3];go_wp2;exact bodyPost_end (results_none rfl _ _ _) rfl ⟨rfl,H.o0,H.o1⟩
theorem qsh (k:Nm) (w:World):(nilAhead (Tryz.prog.types.size+Made.depth) 292 (.agg #[.string (str k)]) "stemma/fs.apply").run Tryz.prog w = .ok (some false) w:=by kernel_rfl
theorem qtq (k:Nm) (f:Nat) (w:World):(method (f+1) 292 (.agg #[.string (str k)]) "stemma/fs.apply").run Tryz.prog w = .ok (441,.agg #[.string (str k)]) w:=by kernel_rfl
theorem qui (B:Nat) (k:Nm) (w:World):(callFunc 441 #[.agg #[.string (str k)],.map (some B)]).run Tryz.prog w = .ok (.enter 441 #[.agg #[.string (str k)],.map (some B)]) w:=by kernel_rfl
theorem qwz (F q B n m:Nat) (dz bj:Value) (vs:LV) (g:Nm->Option Nat) (k:Nm) (P:Nat) (w:World) (hF:rY w F q B dz bj) (hN:Names w B n g) (hc:w.ownsRow 0 313 1 bj m vs) (hm:m<=1000) (rO:F≠B) (qY:∀x,bj.ownBlock=some x->x≠F/\x≠B) (hk:lF k) (hg:g k=some P) :
  Calls Tryz.prog 120 #[.pointer (some ⟨F,0,none⟩),.string (str k)] w λe w'=>∃w1,Fr [] w w1/\RB w1 F q B dz bj m (n+1) (set g k none) e w':=by
 have kC:=J7 F q B n dz bj g k w hF hN hk;rw[hg]at kC;unfold GY at kC;have cj:=λw1 (f1:Fr [] w w1)=>TG F q B n (n+1) m dz bj vs g (set g k none) 292 (.agg #[.string (str k)]) 441 w1 (f1.ag hF (by simp)) (hN.fr f1 (by simp)) (dp hc f1 (by simp)) hm rO qY (λw=>qsh k w) (λf w=>qtq k f w) (λw=>qui B k w) (λw' h=>qqy B n g k w' h hk)
 obtain⟨z,hz⟩:=ah (str k);rw[<-hz]at kC cj ⊢;have H:=ai kC cj;clear kC cj hF hN hk hz hc hg qY;go_enter Tryz.func120,Tryz.ntmps120;go_wp2_with (first
  | (go_at_call 119;go_loud (refine H.o0.mono ?_;rintro e w3 ⟨rfl,f3⟩;have H3:=af f3;clear f3))
  | (go_at_call 137;go_loud (refine (H.l1 _ H3.out).mono ?_;rintro e w4 h4;obtain⟨rfl,h5⟩:=h4;have H5:=af h5;clear h5)))
 go_ret;exact⟨w3,H3.out,rfl,H5.out⟩
theorem qw0 (F n M:Nat) (t:Nm->Option (List UInt8)) (lab:Nat->Option Lb) (k:Nm) (bs:LB) (w:World) (h:Fs w F n M t lab) (hk:lF k) (ht:t k=some bs) (hn:n<890) :
  Calls Tryz.prog 120 #[.pointer (some ⟨F,0,none⟩),.string (str k)] w λe w'=>e = .returned (.int .i64 0)/\∃av,Fs w' F (n+1) M (aS t k none) av/\dS w lab w' av:=by
 obtain⟨⟨q,B,dz,bj,m,vs,g,hq,h1,h2,h3,h4,h5,h6,h7,h8,h9,iC⟩,kM,hM,ef⟩:=h;obtain⟨b1,P,a,c,syn,b2,b3,b4,b5⟩:=h9 k bs ht;have ne:∀{x y:Nat} {l l':Lb},lab x=some l->lab y=some l'->l≠l'->x≠y:=λhx hy hl e=>by rw[e,hy]at hx;exact hl (ig hx).symm
 have rO:F≠B:=ne h5 h6 (by intro e;cases e);have qY:∀x,bj.ownBlock=some x->x≠F/\x≠B:=λx hx=>⟨ne (h7 x hx) h5 (by intro e;cases e),ne (h7 x hx) h6 (by intro e;cases e)⟩
 refine (qwz F q B n m dz bj vs g k P w h1 h2 h3 (by omega) rO qY hk b2).mono ?_;rintro e w' ⟨w1,f1,he,jG,CU,k1,k3,k5,f2,k4⟩;have uB:∀x∈F::B::bj.ownBlock.toList,∃l,lab x=some l/\(l = .fs\/l = .names\/l = .bj):=λx hm=>by
  simp only[eX,Ii]at hm;rcases hm with rfl|rfl|hm
  ·exact⟨_,h5,.inl rfl⟩
  ·exact⟨_,h6,.inr (.inl rfl)⟩
  ·exact⟨_,h7 x hm,.inr (.inr rfl)⟩
 have f12:Fr (F::B::bj.ownBlock.toList) w w':=(f1.mono (T:=F::B::bj.ownBlock.toList) (by simp)).trans f2;obtain⟨av,jm⟩:∃av:Nat->Option Lb,av=λx=>if jG.ownBlock=some x then some .bj else lab x:=⟨_,rfl⟩
 have dL:∀x l,lab x=some l->av x=some l:=λx l hl=>by
  rw[jm];simp only;split
  ·next hc=>
   rcases k4 x hc with hc|hc
   ·rw[h7 x hc]at hl;exact hl
   ·have:=ef x (by rw[hl];exact nW l);have:=f1.size;omega
  ·exact hl
 have off:∀x l,lab x=some l->l≠.fs->l≠.names->l≠.bj->x∉F::B::bj.ownBlock.toList:=λx l hl n1 n2 n3 hm=>by
  obtain⟨l',tL,hc⟩:=uB x hm;rw[hl]at tL;obtain rfl:=ig tL;rcases hc with e|e|e
  ·exact n1 e
  ·exact n2 e
  ·exact n3 e
 have vV:∀x qB,t x=some qB->qB.length<=M/\∃p a c syn,g x=some p/\pH w' p a c syn qB/\av p=some .file/\∀y∈ag a,av y=some (.data p):=λx qB hx=>by obtain⟨d1,p',a2,c2,rm,d2,d3,d4,d5⟩:=h9 x qB hx;exact⟨d1,p',a2,c2,rm,d2,⟨f12.ag d3.1 (off _ _ d4 (by intro e;cases e) (by intro e;cases e) (by intro e;cases e)),d3.2.fr f12 (λy hy=>off _ _ (d5 y hy) (by intro e;cases e) (by intro e;cases e) (by intro e;cases e))⟩,dL _ _ d4,λy hy=>dL _ _ (d5 y hy)⟩
 have gk:∀x p,set g k none x=some p->x≠k/\g x=some p:=λx p hx=>by
  unfold set at hx;by_cases e1:x=k
  ·rw[if_pos e1]at hx;cases hx
  ·rw[if_neg e1]at hx;exact⟨e1,hx⟩
 refine⟨he,av,⟨⟨q,B,dz,jG,m+1,CU,_,hq,k1,k3,k5,by omega,dL _ _ h5,dL _ _ h6,λx hx=>by rw[jm];simp only[if_pos hx],λx hx=>?_,λx qB hx=>?_,λx y p hx hy=>?_⟩,by omega,hM,λx hx=>?_⟩,⟨_,f12,λx hx=>?_⟩,λx hx=>?_⟩
 ·unfold aS at hx;unfold set;by_cases e1:x=k
  ·rw[if_pos e1]
  ·rw[if_neg e1]at hx ⊢;exact h8 x hx
 ·unfold aS at hx;unfold set;by_cases e1:x=k
  ·rw[if_pos e1]at hx;cases hx
  ·rw[if_neg e1]at hx ⊢;exact vV x qB hx
 ·exact iC x y p (gk x p hx).2 (gk y p hy).2
 ·rw[jm]at hx;simp only at hx;by_cases e1:jG.ownBlock=some x
  ·exact R5 k5 e1
  ·rw[if_neg e1]at hx;exact fM (ef x hx) f12.size
 ·obtain⟨l,hl,_⟩:=uB x hx;rw[hl];exact nW _
 ·rw[jm]at hx;simp only at hx;by_cases e1:jG.ownBlock=some x
  ·rcases k4 x e1 with hc|hc
   ·left;rw[h7 x hc];exact nW _
   ·right;have:=f1.size;omega
  ·rw[if_neg e1]at hx;exact .inl hx
end fs
namespace ob
open Go Go.RowKit lib fs lo pk
set_option maxRecDepth 100000
structure RS (w:World) (R F n M:Nat) (t:Nm->Option (List UInt8)) (lab:Nat->Option Lb):Prop where
 box:qC w R F
 off:lab R=none
 fs:Fs w F n M t lab
theorem RS.step {w w':World} {R F n n' M:Nat} {t t':Nm->Option (List UInt8)} {lab av:Nat->Option Lb} (h:RS w R F n M t lab) (h':Fs w' F n' M t' av) (s:dS w lab w' av):RS w' R F n' M t' av:=
 ⟨Da s h.off h.box,BA s h.off (lt_of_block h.box),h'⟩
theorem RS.fr {w w':World} {R F n M:Nat} {t:Nm->Option (List UInt8)} {lab:Nat->Option Lb} (h:RS w R F n M t lab) (f:Fr [] w w'):RS w' R F n M t lab:=⟨f.ag h.box (by simp),h.off,h.fs.fr f (by simp)⟩
theorem RS.c0 {w:World} {R F n M:Nat} {t:Nm->Option (List UInt8)} {lab:Nat->Option Lb} (h:RS w R F n M t lab):w.cell? ⟨R,0,none⟩=some (.pointer (some ⟨F,0,none⟩)):=(cell_of h.box 0).trans rfl
def Ro (w:World) (R F n M:Nat) (t:Nm->Option (List UInt8)) (lab:Nat->Option Lb) (e:Ending) (w':World):Prop:=e = .returned (.int .i64 0)/\∃av,RS w' R F n M t av/\dS w lab w' av
theorem Zy (R F n M:Nat) (t:Nm->Option (List UInt8)) (lab:Nat->Option Lb) (k:Nm) (ba:OA) (bc:Nat) (nb:LB) (w:World) (h:RS w R F n M t lab) (hk:lF k) (ht:t k=none) (hb:lib.Rd w ba bc nb) (dW:nb≠[]->∀x∈ag ba,lab x=none)
  (hM:nb.length<=M) (iV:M<=100000) (dh:nb.length+(n+1)*M<=1048576) (hn:n<880) :
  Calls Tryz.prog 134 #[.pointer (some ⟨R,0,none⟩),.string (str k),.slice ba nb.length bc] w (Ro w R F (n+1) M (aS t k (some nb)) lab):=by
 obtain⟨z1,gS⟩:=ah (str k);obtain⟨L,hL⟩:=ah nb.length;have d0:=h.c0;have H:=aQ h hb dW gS hL;rw[<-gS,<-hL];clear h hb dW gS hL;go_enter Tryz.func134,Tryz.ntmps134;have c0:=PW F n M t lab k w H.o0.fs hk ht;rw[<-H.o3]at c0;have H0:=af c0;clear c0;go_upto_region 4 with (go_at_call 120;refine H0.out.mono ?_;rintro e w1 ⟨rfl,f1⟩;have d1:=f1.cell d0 (by simp);have H1:=af f1;clear f1);have c1:=qoo F n M t lab k w1 (H.o0.fs.fr H1.out (by simp)) hk ht (by omega);rw[<-H.o3]at c1;have H2:=af c1;clear c1;go_upto_region 6 with (go_at_call 121;refine H2.out.mono ?_;rintro e w2 ⟨rfl,qm,h2,s2⟩;have k2:=(H.o0.fr H1.out).step h2 s2;have d2:=k2.c0;have H3:=ai k2 s2;clear h2 s2 k2);have s02:=(dS.refl w lab H1.out).trans H3.l1;have ru:=s02.rd H.o1 H.o2;have c2:=qou F (n+1) M M (aS t k (some [])) qm k [] ba bc nb w2 H3.o0.fs hk (by unfold aS;rw[if_pos rfl]) ru.1 ru.2 (ax _) (by simpa using hM) iV dh;rw[<-H.o3,<-H.l4]at c2;have H4:=ai c2 s02;clear c2 s02 ru;go_upto_region 8 with (go_at_call 122;refine H4.o0.mono ?_;rintro e w3 ⟨rfl,uK,h3,s3⟩;have k3:=H3.o0.step h3 s3;have d3:=k3.c0;have H5:=ai k3 s3;clear h3 s3 k3);have c3:=ZD F (n+1) M _ uK k ([]++nb) w3 H5.o0.fs hk (by unfold aS;rw[if_pos rfl]);rw[<-H.o3]at c3;have H6:=af c3;clear c3;go_wp2_with (go_at_call 123;refine H6.out.mono ?_;rintro e w4 ⟨rfl,h4,s4⟩;have H7:=ai (H5.o0.step h4 s4) s4;clear h4 s4);go_ret;have e5:aS (aS t k (some [])) k (some ([]++nb))=aS t k (some nb):=by
  funext x;unfold aS;by_cases e1:x=k
  ·rw[if_pos e1,if_pos e1];rfl
  ·rw[if_neg e1,if_neg e1,if_neg e1]
 refine⟨rfl,uK,?_,(H4.l1.trans H5.l1).trans H7.l1⟩;rw[<-e5];exact H7.o0
theorem zhi (R F n M:Nat) (t:Nm->Option (List UInt8)) (lab:Nat->Option Lb) (k k2:Nm) (bs:LB) (w:World) (h:RS w R F n M t lab) (hk:lF k) (j3:lF k2) (bg:k≠k2) (ht:t k=some bs) (hn:n<880) :
  Calls Tryz.prog 140 #[.pointer (some ⟨R,0,none⟩),.string (str k),.string (str k2)] w (Ro w R F (n+1) M (aS (aS t k2 (some bs)) k none) lab):=by
 have hr:=TJ F n M t lab k k2 bs w h.fs hk j3 bg ht (by omega);have d0:=h.c0;obtain⟨z1,gS⟩:=ah (str k);obtain⟨z2,lN⟩:=ah (str k2);rw[<-gS,<-lN]at hr ⊢;have H:=ai h hr;clear h hr gS lN;go_enter Tryz.func140,Tryz.ntmps140;go_wp2_with (go_at_call 74;refine H.l1.mono ?_;rintro e w4 ⟨rfl,qj,h4,s4⟩;have H4:=ai h4 s4;clear h4 s4);go_ret;exact⟨rfl,qj,H.o0.step H4.o0 H4.l1,H4.l1⟩
theorem zej (nm:Nm) (hn:nm.length<=1000) (w:World) :
  Calls Tryz.prog 439 #[.agg #[.int .i64 0,.string (str nm)]] w λe w'=>e = .returned (.string (str ([115,101,116,32,48,32]++nm)))/\Fr [] w w':=by
 have hI:=λw=>Tryz.strconv_Itoa_small 0 (by decide) w
 rw[show (⟨(Lib.decDigits 0).toArray⟩:ByteArray)=⟨#[48]⟩ by rw[show Lib.decDigits 0=[48] by unfold Lib.decDigits;simp]]at hI;have e1:(⟨#[115,101,116,32,48,32]⟩:ByteArray)++str nm=str ([115,101,116,32,48,32]++nm):=by apply ByteArray.ext;simp[str]
 have cZ:(str nm).size<=1000:=by rw[aj];exact hn
 obtain⟨z,hz⟩:=ah (str nm);obtain⟨y,hy⟩:=ah (str ([115,101,116,32,48,32]++nm));rw[<-hz]at e1 cZ ⊢;rw[<-hy]at e1 ⊢;have H:=ai hI e1;clear hI hz hy;obtain⟨w1,aJ⟩:=ah (w.alloc (.cells #[.int .i64 0,.string z] 233));obtain⟨X,hX⟩:=ah w.heap.size;have b1:w1.heap[X]?=some (.cells #[.int .i64 0,.string z] 233 (0,0)):=by rw[aJ,hX];exact aV w _
 have f1:Fr [] w w1:=by rw[aJ];exact (Fr.refl [] w).alloc _
 have s0:∀x,(sup [] w1.drew x).cell? ⟨X,0,none⟩=some (.int .i64 0):=λx=>(gB [] w1.drew x).cell (show w1.drew.cell? _=_ from (cell_of b1 0).trans rfl) (by simp)
 have s1:∀x,(sup [] w1.drew x).cell? ⟨X,1,none⟩=some (.string z):=λx=>(gB [] w1.drew x).cell (show w1.drew.cell? _=_ from (cell_of b1 1).trans rfl) (by simp)
 have HW:=aq aJ hX f1;clear aJ hX b1 f1;go_enter Tryz.func439,Tryz.ntmps439;go_upto_region 1 with fail;rw[<-HW.o0,<-HW.o1];refine lK 9 [(false,0),(false,1),(false,5),(false,6),(true,2),(false,3),(false,4),(false,7),(false,8)] [] (by kernel_rfl) (by kernel_rfl) (λ_ _ d _ _ h=>by cases d<;>exact h) ?_;simp only[kQ];refine eD 4 rfl ?_;simp only[cT];repeat (go_big_quiet_step (fail))
 refine wpQuiet_nil ?_;refine jb rfl ?_;intro XX gY;go_wp2_with (go_at_call 55;go_loud (refine (H.o0 _).mono ?_;rintro e w2 ⟨rfl,hw⟩;obtain rfl:=hw.symm));refine gY.out _ _ (Fr.refl _ _) ?_;clear gY XX s0 s1;refine eD 4 rfl ?_;simp only[cT];repeat (go_big_quiet_step (fail))
 refine wpQuiet_nil ?_;refine j4 ?_;go_wp2;go_ret;exact⟨by first|rfl|(rw[<-H.l1];rfl),HW.l2.trans (Fr.aB [] w1)⟩
end ob

end Go.Proofs.YticadfhpolhkeaaGreatDoor