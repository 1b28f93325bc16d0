/-
  Texts of this proof, one behind the other: Counts, Writer, Wb, Stored, RowsArg, Written, Plain, SumA.
-/
import Derived.Test.YticadfhpolhkeaaGreatDoorQ4
import Derived.Test.YticadfhpolhkeaaGreatDoorQ7
import Derived.Lib.SmallJoins
set_option maxHeartbeats 16000000
set_option maxRecDepth 100000
set_option linter.unusedVariables false
set_option linter.unusedSimpArgs false
namespace Go.Proofs.YticadfhpolhkeaaGreatDoor
namespace defl
open Go Go.RowKit lib bm mat huf
variable {n:Nat}
theorem ZY (sJ:11<=n) (h:n<258):∃w,1<=w/\w<=5/\4*2^w<=n-3/\n-3<8*2^w:=by
 obtain h|h:n<19\/19<=n:=by omega
 ·exact⟨1,by omega,by omega,by omega,by omega⟩
 obtain h|h:n<35\/35<=n:=by omega
 ·exact⟨2,by omega,by omega,by omega,by omega⟩
 obtain h|h:n<67\/67<=n:=by omega
 ·exact⟨3,by omega,by omega,by omega,by omega⟩
 obtain h|h:n<131\/131<=n:=by omega
 ·exact⟨4,by omega,by omega,by omega,by omega⟩
 exact⟨5,by omega,by omega,by omega,by omega⟩
theorem ZN (h5:5<=n) (h:n<=32768):∃w,1<=w/\w<=13/\2*2^w<=n-1/\n-1<4*2^w:=by
 have h0:n-1≠0:=by omega
 have h1:2<=Nat.log2 (n-1):=(Nat.le_log2 h0).2 (by omega);have h2:Nat.log2 (n-1)<15:=(Nat.log2_lt h0).2 (by omega);have h3:=(Nat.le_log2 h0 (k:=Nat.log2 (n-1))).1 (ax _);have h4:=(Nat.log2_lt h0 (k:=Nat.log2 (n-1)+1)).1 (by omega);obtain⟨v,hv⟩:∃v,Nat.log2 (n-1)=v+1:=⟨Nat.log2 (n-1)-1,by omega⟩;rw[hv]at h1 h2 h3 h4;rw[qJ]at h3 h4;rw[qJ]at h4;exact⟨v,by omega,by omega,by omega,by omega⟩
theorem Kw (h3:3<=n) (iB:n<=258):257<=(bx n).1/\(bx n).1<286/\(bx n).2.2<=5/\(bx n).2.1<2^(bx n).2.2:=by
 by_cases sJ:n<11
 ·unfold bx;rw[if_pos sJ];simp only;omega
 ·by_cases h8:n=258
  ·subst h8;decide
  ·obtain⟨w,h1,h2,h4,h5⟩:=ZY (by omega) (show n<258 by omega);rw[SI (w:=w) (by omega) h8 h4 h5];have hp:=mC w;have:(n-3)/2^w<8:=(Dy hp).2 h5;have:4<=(n-3)/2^w:=(Nat.le_div_iff_mul_le hp).2 h4;refine⟨by simp only;omega,by simp only;omega,h2,xS _ hp⟩
theorem Kv (h1:1<=n) (h:n<=32768):(cu n).1<30/\(cu n).2.2<=13/\(cu n).2.1<2^(cu n).2.2:=by
 by_cases h5:n<5
 ·unfold cu;rw[if_pos h5];simp only;omega
 ·obtain⟨w,k1,k2,k4,k5⟩:=ZN (by omega) h;rw[SR (w:=w) (by omega) k4 k5];have hp:=mC w;have:(n-1)/2^w<4:=(Dy hp).2 k5;exact⟨by simp only;omega,k2,xS _ hp⟩
def ka:Tok->Nat
 | .lit c=>c.toNat
 | .mat n _=>(bx n).1
def nS:Tok->Option Nat
 | .lit _=>none
 | .mat _ d=>some (cu d).1
def lZ (t:List Tok) (s:Nat):Nat:=(t.map ka).count s
def mM (t:List Tok) (s:Nat):Nat:=(t.filterMap nS).count s
theorem Ka (t:List Tok) (s:Nat):lZ t s<=t.length:=by have:=JX (a:=s) (l:=t.map ka);rw[gx]at this;exact this
theorem XJ (t:List Tok) (s:Nat):mM t s<=t.length:=by have:=JX (a:=s) (l:=t.filterMap nS);exact bP this (List.length_filterMap_le _ _)
theorem Y4 (t:List Tok) (x:Tok) (s:Nat):lZ (t++[x]) s=if s=ka x then lZ t s+1 else lZ t s:=by
 unfold lZ;rw[jd,Df];by_cases h:s=ka x
 ·subst h;simp
 ·rw[if_neg h];simp[pM h]
theorem zfh (t:List Tok) (c:UInt8) (s:Nat):mM (t++[.lit c]) s=mM t s:=by unfold mM;rw[List.filterMap_append,show List.filterMap nS [Tok.lit c]=[] from rfl,nX]
theorem zfg (t:List Tok) (n d s:Nat):mM (t++[.mat n d]) s=if s=(cu d).1 then mM t s+1 else mM t s:=by
 unfold mM;rw[List.filterMap_append,Df];by_cases h:s=(cu d).1
 ·subst h;simp[nS]
 ·rw[if_neg h];simp[nS,pM h]
structure Cn (p1 p2 Q1 Q2:Nat) (t:List Tok) (w:World):Prop where
 c1:w.cell? ⟨p1,0,none⟩=some (.slice (some ⟨Q1,0,none⟩) 286 286)
 c2:w.cell? ⟨p2,0,none⟩=some (.slice (some ⟨Q2,0,none⟩) 30 30)
 o1:Ow w Q1 286 (lZ t)
 o2:Ow w Q2 30 (mM t)
 n1:p1≠Q1/\p1≠Q2/\p2≠Q1/\p2≠Q2/\Q1≠Q2
theorem zbt (p1 p2 Q1 Q2:Nat) (t:List Tok) (c:UInt8) (w:World) (h:Cn p1 p2 Q1 Q2 t w) (ht:t.length<=1000000) :
  Calls Tryz.prog 292 #[.int .u8 c.toNat,.pointer none,.pointer (some ⟨p1,0,none⟩),.pointer (some ⟨p2,0,none⟩)] w λe w'=>e = .returned (.tuple #[])/\Cn p1 p2 Q1 Q2 (t++[.lit c]) w'/\Fr [Q1,Q2] w w':=by
 obtain⟨s,hs⟩:=ah c.toNat;have ep:s<256:=by rw[hs];exact mW _
 rw[<-hs];have d1:=h.c1;have d3:=h.o1.cell (show s<286 by omega);have z3:=h.o1.frozen s;have hb:=Ka t s;obtain⟨F,hF⟩:=ah (lZ t s);rw[<-hF]at d3 hb;have cW:=h.o1.set (show s<286 by omega) (F+1);have H:=aA h hs hF cW;clear h hs hF cW;go_enter Tryz.func292,Tryz.ntmps292;go_wp2;refine bodyPost_ret (results_none rfl _ _ _) rfl ?_;obtain⟨h,hs,hF,cW⟩:=H.out;refine⟨rfl,⟨?_,?_,cW.congr λx _=>?_,?_,h.n1⟩,(Fr.refl _ w).setCell (by simp) _⟩
 ·exact ((Fr.refl [Q1] w).setCell (by simp) _).cell h.c1 (by simpa using h.n1.1)
 ·exact ((Fr.refl [Q1] w).setCell (by simp) _).cell h.c2 (by simpa using h.n1.2.2.1)
 ·rw[Y4,hF];show (if x=s then _ else _)=if x=c.toNat then _ else _
  rw[hs];by_cases e:x=c.toNat
  ·rw[if_pos e,if_pos e,e]
  ·rw[if_neg e,if_neg e]
 ·refine (h.o2.fr ((Fr.refl [Q1] w).setCell (by simp) _) (by simpa using (pM h.n1.2.2.2.2))).congr λx _=>(zfh t c x).symm
theorem zbs (p1 p2 Q1 Q2 g o:Nat) (t:List Tok) (n d:Nat) (w:World) (h:Cn p1 p2 Q1 Q2 t w) (ht:t.length<=1000000) (h3:3<=n) (iB:n<=258) (h1:1<=d) (hd:d<=32768)
  (hg:g≠Q1/\g≠Q2) (e1:w.cell? ⟨g,o+1,none⟩=some (.int .i64 n)) (e2:w.cell? ⟨g,o+2,none⟩=some (.int .i64 d)) :
  Calls Tryz.prog 292 #[.int .u8 0,.pointer (some ⟨g,o,none⟩),.pointer (some ⟨p1,0,none⟩),.pointer (some ⟨p2,0,none⟩)] w λe w'=>e = .returned (.tuple #[])/\Cn p1 p2 Q1 Q2 (t++[.mat n d]) w'/\Fr [Q1,Q2] w w':=by
 have hl:=PK n w h3 iB;have bF:=Kw h3 iB;have Cy:=Kv h1 hd;unfold Triple at hl;obtain⟨s,hs⟩:=ah ((bx n).1);obtain⟨s2,ep⟩:=ah ((cu d).1);rw[<-hs]at hl bF;rw[<-ep]at Cy;have hsl:s<286:=bF.2.1;have qo:s2<30:=Cy.1;obtain⟨F,hF⟩:=ah (lZ t s);obtain⟨G,hG⟩:=ah (mM t s2);have tV:F<=1000000:=by rw[hF];exact bP (Ka _ _) ht
 have hGb:G<=1000000:=by rw[hG];exact bP (XJ _ _) ht
 have H:=sM h hs ep hF hG hl hg h1 hd e2;clear h hs ep hF hG hl bF Cy ht h3 iB h1 hd e2 hg;go_enter Tryz.func292,Tryz.ntmps292;go_upto_region 3 with (go_at_call 293;refine H.out.2.2.2.2.2.1.mono ?_;rintro e w1 ⟨rfl,f1⟩;have H1:=af f1;clear f1);clear e1;have h1:=H.out.1;have d1:=H1.out.cell h1.c1 (by simp);have o1:=h1.o1.fr H1.out (by simp);have d3:=o1.cell hsl;rw[<-H.out.2.2.2.1]at d3;have z3:=o1.frozen s;have cW:=o1.set hsl (F+1);obtain⟨w2,cC⟩:∃w2,w2=w1.setCell ⟨Q1,s,none⟩ (.int .i64 ((F+1:Nat):Nat)):=⟨_,rfl⟩;rw[<-cC]at cW;have f2:Fr [Q1] w w2:=by rw[cC];exact (H1.out.mono (by simp)).setCell (by simp) _
 have H2:=aq cW f2 cC.symm;clear h1 o1 cW cC f2;go_upto_region 4 with fail;clear d1 d3 z3;have hw:w1.setCell ⟨Q1,s,none⟩ (.int .i64 ((F:Int)+1))=w2:=by rw[<-H2.l2];rfl
 rw[hw];clear hw;have e2:=H2.o1.cell H.out.2.2.2.2.2.2.2.2.2 (by simpa using H.out.2.2.2.2.2.2.1.1);have xC:=P6 d w2 H.out.2.2.2.2.2.2.2.1 H.out.2.2.2.2.2.2.2.2.1;unfold Triple at xC;rw[<-H.out.2.2.1]at xC;have HD:=af xC;clear xC;go_upto_region 5 with (go_at_call 294;refine HD.out.mono ?_;rintro e w3 ⟨rfl,f3⟩;have H3:=af f3;clear f3);clear e2;have h1:=H.out.1;have f23:=H2.o1.trans (H3.out.mono (by simp));have d2:=f23.cell h1.c2 (by simpa using h1.n1.2.2.1);have o2:=h1.o2.fr f23 (by simpa using (pM h1.n1.2.2.2.2));have d4:=o2.cell qo;rw[<-H.out.2.2.2.2.1]at d4;have z4:=o2.frozen s2;have cW:=o2.set qo (G+1);have H4:=ai cW f23;clear h1 f23 o2 cW;go_wp2;(try simp only[Exit.inBlock,Exit.then]);refine bodyPost_end (results_none rfl _ _ _) rfl ?_;obtain⟨h,hs,ep,hF,hG,_⟩:=H.out;obtain⟨RY,f23⟩:=H4.out;have RZ:=H2.o0;refine⟨rfl,⟨?_,?_,?_,?_,h.n1⟩,(f23.mono (by simp)).setCell (by simp) _⟩
 ·exact ((f23.mono (T:=[Q1,Q2]) (by simp)).setCell (by simp) _).cell h.c1 (by simpa using⟨h.n1.1,h.n1.2.1⟩)
 ·exact ((f23.mono (T:=[Q1,Q2]) (by simp)).setCell (by simp) _).cell h.c2 (by simpa using⟨h.n1.2.2.1,h.n1.2.2.2.1⟩)
 ·refine ((RZ.fr H3.out (by simp)).fr ((Fr.refl [Q2] w3).setCell (by simp) _) (by simpa using h.n1.2.2.2.2)).congr λx _=>?_
  rw[Y4,hF];show (if x=s then _ else _)=if x=(bx n).1 then _ else _
  rw[<-hs];by_cases e:x=s
  ·rw[if_pos e,if_pos e,e]
  ·rw[if_neg e,if_neg e]
 ·refine RY.congr λx _=>?_
  rw[zfg,hG];show (if x=s2 then _ else _)=if x=(cu d).1 then _ else _
  rw[<-ep];by_cases e:x=s2
  ·rw[if_pos e,if_pos e,e]
  ·rw[if_neg e,if_neg e]
theorem qni {fn:Func} {p u:Tmp} {t1 t2:TypeId} (h:fn.results=#[.cell p t1,.cell u t2]) (tmps:AV) (P:Program) (w:World) (g1 g2:Nat) (v1 v2:Value)
  (e1:tmps.getD p undef = .pointer (some ⟨g1,0,none⟩)) (e2:tmps.getD u undef = .pointer (some ⟨g2,0,none⟩)) (l1:(loadVar t1 ⟨g1,0,none⟩).run P w = .ok v1 w) (l2:(loadVar t2 ⟨g2,0,none⟩).run P w = .ok v2 w) :
  (results fn tmps).run P w = .ok (.tuple #[v1,v2]) w:=by
 have Ws:tmps[p]?.getD undef = .pointer (some ⟨g1,0,none⟩):=by simpa using e1
 have e2':tmps[u]?.getD undef = .pointer (some ⟨g2,0,none⟩):=by simpa using e2
 simp only[results,h];simp[Bz,Ws,e2',asAddr,l1,l2,Result.andThen]
theorem qgf {w:World} {g:Nat} {v:Value} (h:w.cell? ⟨g,0,none⟩=some v):(loadVar 348 ⟨g,0,none⟩).run Tryz.prog w = .ok v w:=by have h1:=Tryz.isAgg348;simp[loadVar,h1,h]
theorem Tc (n:Nat) (h:n<=1000000):∃Z:Array Value,Z.size=n/\(∀s,s<n->Z[s]?=some (.int .i64 0))/\∀w:World,(Instr.makeSlice 348 (.int .i64 (n:Nat)) (.int .i64 (n:Nat))).run Tryz.prog w = .ok (.slice (some ⟨w.heap.size,0,none⟩) n n) (w.alloc (.cells Z 3)):=by
 obtain⟨i,hi,hz,hs,hb⟩:=info_parts SH;refine⟨madeCells (Value.int .i64 0).cells n,size_madeCells _ _,λs im=>?_,λw=>?_⟩
 ·rw[<-yO,show (Value.int .i64 0).cells=#[.int .i64 0] from rfl,toList_madeCells_one,Kk,if_pos im]
 ·have:=run_make (P:=Tryz.prog) w 348 3 i (.int .i64 0) Tryz.underlying348 hi hz .i64 .i64 (n:Nat) (n:Nat) (by omega) (Int.le_refl _) (by rw[hb];omega) (by omega);rw[hs,xZ,uG]at this;exact this
theorem Zx {w1:World} {p1 p2:Nat} {x1 x2 v1 v2:Value} {T1 T2:TypeId} {Za Zb:AV} {T:TypeId} (b1:w1.heap[p1]?=some (.cells #[x1] T1 (0,0))) (b2:w1.heap[p2]?=some (.cells #[x2] T2 (0,0))) (hp:p1≠p2) :
  ∃W,W=((((w1.setCell ⟨p1,0,none⟩ v1).setCell ⟨p2,0,none⟩ v2).alloc (.cells Za T)).alloc (.cells Zb T)).drew/\W.heap[p1]?=some (.cells #[v1] T1 (0,0))/\W.heap[p2]?=some (.cells #[v2] T2 (0,0))/\
   W.heap[w1.heap.size]?=some (.cells Za T (0,0))/\W.heap[w1.heap.size+1]?=some (.cells Zb T (0,0))/\Fr [p1,p2] w1 W:=by
 refine⟨_,rfl,?_,?_,?_,?_,?_⟩
 ·have k1:=df (o:=0) b1 v1;have k2:=alloc_old (.cells Zb T) (alloc_old (.cells Za T) ((DB (o:=0) hp v2).trans k1));exact k2
 ·have k1:=df (o:=0) ((DB (o:=0) (pM hp) v1).trans b2) v2;have k2:=alloc_old (.cells Zb T) (alloc_old (.cells Za T) k1);exact k2
 ·have k1:=aV ((w1.setCell ⟨p1,0,none⟩ v1).setCell ⟨p2,0,none⟩ v2) (.cells Za T);rw[World.size_setCell,World.size_setCell]at k1;exact alloc_old (.cells Zb T) k1
 ·have k1:=aV (((w1.setCell ⟨p1,0,none⟩ v1).setCell ⟨p2,0,none⟩ v2).alloc (.cells Za T)) (.cells Zb T);rw[ik,World.size_setCell,World.size_setCell]at k1;exact k1
 ·exact (((((Fr.refl [p1,p2] w1).setCell (by simp) _).setCell (by simp) _).alloc _).alloc _).drew
def mH (b:LB) (t:List Tok) (s:Nat):Nat:=lZ t s+(if s=256 then 1 else 0)+(if b.length=0/\s=0 then 1 else 0)
def pI (b:LB) (t:List Tok) (w:World) (e:Ending) (w':World):Prop:=
 ∃Q1 Q2,e = .returned (.tuple #[.slice (some ⟨Q1,0,none⟩) 286 286,.slice (some ⟨Q2,0,none⟩) 30 30])/\Ow w' Q1 286 (mH b t)/\Ow w' Q2 30 (mM t)/\Fr [] w w'/\w.heap.size<=Q1/\w.heap.size<=Q2
theorem qx3 (b:LB) (a al:OA) (cap cl r:Nat) (l:List Mt) (lY iH:Value) (told:Bool) (w:World) (DY:lY.oneCell'=true) (zu:iH.oneCell'=true)
  (hb:Rd w a cap b) (hl:Cs w al (bJ l)) (nn:l.length<=cl) (nL:al=none->cl=0) (kE:cl<=maxLen) (cj:cH b r 0 l) (hr:r<=32768) (gX:b.length<=1000000) (oX:∀x∈ag a,x<w.heap.size) (sA:∀x∈ag al,x<w.heap.size) :
  Calls Tryz.prog 243 #[vw a al b.length cap l.length cl lY iH told] w (pI b (br b 0 l) w):=by
 obtain⟨Z1,gS,hZ1,mk1⟩:=Tc 286 (by decide);obtain⟨Z2,lN,VN,Lq⟩:=Tc 30 (by decide);have mka:∀w:World,(Instr.makeSlice 348 (.int .i64 286) (.int .i64 286)).run Tryz.prog w = .ok (.slice (some ⟨w.heap.size,0,none⟩) 286 286) (w.alloc (.cells Z1 3)):=mk1;have mkb:∀w:World,(Instr.makeSlice 348 (.int .i64 30) (.int .i64 30)).run Tryz.prog w = .ok (.slice (some ⟨w.heap.size,0,none⟩) 30 30) (w.alloc (.cells Z2 3)):=Lq;clear mk1 Lq;obtain⟨B,hB⟩:=ah w.heap.size;obtain⟨w1,aJ⟩:=ah (((w.alloc (.cells #[.slice a b.length cap,.slice al l.length cl,lY,iH,.bool told] 350 (0,0))).alloc (.cells #[.slice none 0 0] 348 (0,0))).alloc (.cells #[.slice none 0 0] 348 (0,0)));have f1:Fr [] w w1:=by rw[aJ];exact (((Fr.refl [] w).alloc _).alloc _).alloc _
 have qN:w1.heap.size=B+3:=by rw[aJ,ik,ik,ik,<-hB]
 have iU:w1.heap[B]?=some (.cells #[.slice a b.length cap,.slice al l.length cl,lY,iH,.bool told] 350 (0,0)):=by rw[aJ,hB];exact alloc_old _ (alloc_old _ (aV w _))
 have qt:w1.heap[B+1]?=some (.cells #[.slice none 0 0] 348 (0,0)):=by rw[aJ,hB];refine alloc_old _ ?_;have:=aV (w.alloc (.cells #[.slice a b.length cap,.slice al l.length cl,lY,iH,.bool told] 350 (0,0))) (.cells #[.slice none 0 0] 348 (0,0));rwa [ik]at this
 have jk:w1.heap[B+2]?=some (.cells #[.slice none 0 0] 348 (0,0)):=by rw[aJ,hB];have:=aV ((w.alloc (.cells #[.slice a b.length cap,.slice al l.length cl,lY,iH,.bool told] 350 (0,0))).alloc (.cells #[.slice none 0 0] 348 (0,0))) (.cells #[.slice none 0 0] 348 (0,0));rwa [ik,ik]at this
 have H:=sM hb hl nn nL kE cj hr gX oX sA;have HW:=eW aJ.symm f1 qN iU qt jk hB;have HZ:=aA gS hZ1 lN VN;clear hb hl nn nL kE cj hr gX oX sA aJ f1 qN iU qt jk gS hZ1 lN VN hB;unfold vw;go_enter Tryz.func243,Tryz.ntmps243;go_upto_region 1 with fail;rw[HW.o0,<-HW.l6,show B+1+1=B+2 from rfl];obtain⟨p1,qt⟩:=ah (B+1);obtain⟨p2,jk⟩:=ah (B+2);obtain⟨S1,wG⟩:=ah w1.heap.size;rw[<-qt,<-jk];have b1:w1.heap[p1]?=some (.cells #[.slice none 0 0] 348 (0,0)):=by rw[qt];exact HW.o4
 have b2:w1.heap[p2]?=some (.cells #[.slice none 0 0] 348 (0,0)):=by rw[jk];exact HW.o5
 have qN:=HW.o2;have ki:p1≠p2:=by omega
 have HP:=cU qt jk wG qN b1 b2;go_cut [4,5] from 4 to 6 (λs4 s5 wz=>∃Q1 Q2,s4 = .slice (some ⟨Q1,0,none⟩) 286 286/\s5 = .slice (some ⟨Q2,0,none⟩) 30 30/\wz.heap[p1]?=some (.cells #[.slice (some ⟨Q1,0,none⟩) 286 286] 348 (0,0))/\wz.heap[p2]?=some (.cells #[.slice (some ⟨Q2,0,none⟩) 30 30] 348 (0,0))/\
  Ow wz Q1 286 (λ_=>0)/\Ow wz Q2 30 (λ_=>0)/\Q1≠Q2/\w1.heap.size<=Q1/\w1.heap.size<=Q2/\Fr [p1,p2] w1 wz)
 case first=>
  have c1:=cell_of b1 0;have c2:=cell_of b2 0;have z1:=aT b1 0;have z2:=aT b2 0;simp only[dJ,dk]at c1 c2;have kD:=lt_of_block b1;have kj:=lt_of_block b2;have tI:¬p1=w1.heap.size:=by omega
  have lv:¬p2=w1.heap.size:=by omega
  have xt:¬p1=w1.heap.size+1:=by omega
  have AQ:¬p2=w1.heap.size+1:=by omega
  clear b1 b2 qt jk wG qN;go_region;all_goals go_wp2
  all_goals go_meet
  ·obtain⟨W,hW,k1,k2,k3,k4,k5⟩:=Zx (v1:=.slice (some ⟨w1.heap.size,0,none⟩) 286 286) (v2:=.slice (some ⟨w1.heap.size+1,0,none⟩) 30 30) (Za:=Z1) (Zb:=Z2) (T:=3) HP.out.2.2.2.2.1 HP.out.2.2.2.2.2 ki;rw[<-hW];exact⟨_,_,rfl,rfl,k1,k2,⟨Z1,k3,HZ.o0,HZ.o1⟩,⟨Z2,k4,HZ.o2,HZ.l3⟩,by omega,by omega,by omega,k5⟩
  ·obtain⟨W,hW,k1,k2,k3,k4,k5⟩:=Zx (v1:=.slice (some ⟨w1.heap.size+1,0,none⟩) 286 286) (v2:=.slice (some ⟨w1.heap.size,0,none⟩) 30 30) (Za:=Z2) (Zb:=Z1) (T:=3) HP.out.2.2.2.2.1 HP.out.2.2.2.2.2 ki;rw[<-hW];exact⟨_,_,rfl,rfl,k1,k2,⟨Z1,k4,HZ.o0,HZ.o1⟩,⟨Z2,k3,HZ.o2,HZ.l3⟩,by omega,by omega,by omega,k5⟩
 case rest=>
 obtain⟨Q1,Q2,rfl,rfl,Qd,Qc,o1,o2,k6,k7,k8,k9⟩:=hcut;have k1:=cell_of Qd 0;have k2:=cell_of Qc 0;simp only[dJ,dk]at k1 k2;have mv:=k9.ag HW.o3 (by have:=HP.out.1;have:=HP.out.2.1;simp;omega);have f0:=HW.o1;obtain⟨wo,xp⟩:∃wo:World,wo=wc:=⟨_,rfl⟩;rw[<-xp]at k1 k2 Qd Qc o1 o2 k9 mv ⊢;have f9:Fr [] w wo:=f0.step k9 λx hx=>.inr (by have:=HW.l6;have:=HP.out.1;have:=HP.out.2.1;simp at hx;omega)
 obtain⟨hb,hl,nn,nL,kE,cj,hr,gX,oX,sA⟩:=H.out;have cZ:=HW.o2;have hBz:=HW.l6;have Va:=HP.out.1;have U9:=HP.out.2.1;have hQz:Q1<wo.heap.size/\Q2<wo.heap.size:=by obtain⟨A,hA,_⟩:=o1;obtain⟨A2,lR,_⟩:=o2;exact⟨lt_of_block hA,lt_of_block lR⟩
 have Cx:=Zl 292 #[.pointer (some ⟨p1,0,none⟩),.pointer (some ⟨p2,0,none⟩)] (λ_ _=>by kernel_rfl)
  (λt F w'=>F=[Q1,Q2]/\Cn p1 p2 Q1 Q2 t w') [Q1,Q2] b a al cap cl r l lY iH told wo DY zu
  (hb.fr f9) (hl.fr f9 (by simp)) nn nL kE cj hr gX
  (λx hx=>by
   have e:x=Q1\/x=Q2:=by simpa using hx
   refine⟨by omega,λh=>?_,λh=>?_⟩
   ·have:=oX x h;omega
   ·have:=sA x h;omega)
  (λw' f=>⟨rfl,f.cell k1 (by simp),f.cell k2 (by simp),(o1.fr f (by simp)).congr λs _=>by simp[lZ],(o2.fr f (by simp)).congr λs _=>by simp[mM],by omega,by omega,by omega,by omega,k6⟩)
  (λt F c w' ht ⟨hF,hc⟩=>by
   refine (zbt p1 p2 Q1 Q2 t c w' hc (by omega)).mono ?_
   rintro e w2 ⟨rfl,h2,f2⟩
   exact⟨rfl,by rw[hF];exact f2,[Q1,Q2],⟨rfl,h2⟩,λy hy=>.inl (by rw[hF];exact hy)⟩)
  (λt F n d g o w' ht ⟨hF,hc⟩ h3 iB h1 hd hg e1 e2=>by
   refine (zbs p1 p2 Q1 Q2 g o t n d w' hc (by omega) h3 iB h1 hd (by rw[hF]at hg;simpa using hg) e1 e2).mono ?_
   rintro e w2 ⟨rfl,h2,f2⟩
   exact⟨rfl,by rw[hF];exact f2,[Q1,Q2],⟨rfl,h2⟩,λy hy=>.inl (by rw[hF];exact hy)⟩)
 unfold vw at Cx;have e0:=cell_of mv 0;have e1:=cell_of mv 1;have e2:=cell_of mv 2;have e3:=cell_of mv 3;have e4:=cell_of mv 4;simp only[dJ,dk,dU]at e0 e1 e2 e3 e4;obtain⟨BL,lQ⟩:=ah b.length;obtain⟨LL,nA⟩:=ah l.length;have HE:=aQ Cx f9 mv lQ nA;have hpQ:p1≠Q1/\p1≠Q2:=by omega
 have hBQ:B≠Q1/\B≠Q2:=by omega
 have HN:=aA hpQ hBQ (show w.heap.size<=Q1 by omega) (show w.heap.size<=Q2 by omega);rw[<-lQ]at e0 ⊢;rw[<-nA]at e1 ⊢;have He:Hid _:=af Cx;rw[<-lQ,<-nA]at He;have VK:BL<=1000000:=by omega
 have HKB:=ai Qd Qc;have HT:=af (show (br b 0 l).length<=1000000 from bP (Kt b 0 l) (by omega));clear Qd Qc Cx lQ nA hb hl nn nL kE cj hr gX oX sA k1 k2 o1 o2 k6 k7 k8 k9 f9 mv f0 hpQ hBQ hQz cZ hBz Va U9 qt jk wG qN b1 b2 ki mka mkb xp;go_upto_region 3 with (go_at_call 291;refine He.out.mono ?_;rintro e w3 ⟨rfl,f3,F,⟨hF,hc⟩,pn⟩;have H3:=ai f3 hc;clear f3 hF hc pn);clear e0 e1 e2 e3 e4;have hc:=H3.l1;have d1:=hc.c1;have d3:=hc.o1.cell (show 256<286 by decide);have z3:=hc.o1.frozen 256;obtain⟨F,hF⟩:=ah (lZ (br b 0 l) 256);have tV:F<=1000000:=by rw[hF];exact bP (Ka _ _) HT.out
 rw[<-hF]at d3;have cW:=hc.o1.set (show 256<286 by decide) (F+1);have H4:=ai cW hF;clear cW hF hc;go_upto_region 4 with fail;clear d1 d3 z3;obtain⟨w4,jO⟩:∃w4,w4=w3.setCell ⟨Q1,256,none⟩ (.int .i64 ((F:Int)+1)):=⟨_,rfl⟩;rw[<-jO];have f34:Fr [Q1] w3 w4:=by rw[jO];exact (Fr.refl [Q1] w3).setCell (by simp) _
 have Wc:Fr [Q1,Q2] wo w4:=H3.o0.trans (f34.mono (by simp));have c4:Cn p1 p2 Q1 Q2 (br b 0 l) w3:=H3.l1;have cW:=H4.o0;rw[show (Value.int .i64 ((F+1:Nat):Int)) = .int .i64 ((F:Int)+1) from rfl,<-jO]at cW;have o4:Ow w4 Q1 286 (λs=>lZ (br b 0 l) s+(if s=256 then 1 else 0)):=cW.congr λs _=>by
  by_cases e:s=256
  ·subst e;simp[H4.l1]
  ·simp[e]
 have e0:=cell_of (Wc.ag HE.o2 (by simpa using HN.o1)) 0;simp only[dJ,dk]at e0;rw[<-HE.o3]at e0;have H5:=aQ Wc o4 (c4.o2.fr f34 (by simpa using (pM c4.n1.2.2.2.2))) (f34.cell c4.c1 (by simpa using c4.n1.1)) (f34.cell c4.c2 (by simpa using c4.n1.2.2.1));clear f34 Wc c4 cW o4 jO;go_upto_if 17 with fail;go_cut [] from 17 to 23 (λwz=>Ow wz Q1 286 (mH b (br b 0 l))/\Fr [Q1] w4 wz)
 case first=>
  by_cases h0:BL=0
  ·have q0:((BL:Int)==0)=true:=by simp[h0]
   have d1:=H5.o3;have d3:=H5.o1.cell (show 0<286 by decide);have z3:=H5.o1.frozen 0;obtain⟨G,hG⟩:=ah (lZ (br b 0 l) 0+(if 0=256 then 1 else 0));have hGb:G<=1000000:=by rw[hG];have:=Ka (br b 0 l) 0;have:=HT.out;simp;omega
   rw[<-hG]at d3;have cW:=H5.o1.set (show 0<286 by decide) (G+1);have H6:=ai cW hG;clear cW hG;go_wp2;go_meet;refine⟨?_,(Fr.refl [Q1] w4).setCell (by simp) _⟩;have cW:=H6.o0;rw[show (Value.int .i64 ((G+1:Nat):Int)) = .int .i64 ((G:Int)+1) from rfl]at cW;refine cW.congr λs _=>?_
   unfold mH;rw[<-HE.o3];by_cases e:s=0
   ·subst e;simp[H6.l1,h0]
   ·simp[e]
  ·have q0:((BL:Int)==0)=false:=by simp only[beq_eq_false_iff_ne];omega
   go_wp2;go_meet;refine⟨H5.o1.congr λs _=>?_,.refl _ _⟩;unfold mH;rw[<-HE.o3];simp[h0]
 case rest=>
 obtain⟨o5,f5⟩:=hcut;obtain⟨w5,yX⟩:∃w5:World,w5=wc:=⟨_,rfl⟩;rw[<-yX]at o5 f5 ⊢;have hn:=H3.l1.n1;have c1:=f5.cell H5.o3 (by simpa using hn.1);have c2:=f5.cell H5.l4 (by simpa using hn.2.2.1);have JA:Fr [Q1,Q2] wo w5:=H5.o0.trans (f5.mono (by simp));have y1:=JA.ag HKB.o0 (by simpa using⟨hn.1,hn.2.1⟩);have y2:=JA.ag HKB.l1 (by simpa using⟨hn.2.2.1,hn.2.2.2.1⟩);have z1:=aT y1 0;have z2:=aT y2 0;have Mj:p1≠p2:=by have:=HP.out.1;have:=HP.out.2.1;omega
 have HF:=aQ o5 f5 y1 y2 JA;clear o5 f5 hn yX y1 y2 JA;go_upto_region 6 with fail;go_region;all_goals go_wp2
 obtain⟨o5,f5,y1,y2,JA⟩:=HF.out;have hn:=H3.l1.n1;obtain⟨W,hW⟩:=ah (((w5.setCell ⟨p1,0,none⟩ (.slice (some ⟨Q1,0,none⟩) 286 286)).setCell ⟨p2,0,none⟩ (.slice (some ⟨Q2,0,none⟩) 30 30)).drew);have fW:Fr [p1,p2] w5 W:=by rw[hW];exact (((Fr.refl [p1,p2] w5).setCell (by simp) _).setCell (by simp) _).drew
 have k1:W.cell? ⟨p1,0,none⟩=some (.slice (some ⟨Q1,0,none⟩) 286 286):=by rw[hW];exact (cell_of (w:=World.drew _) ((DB (o:=0) Mj _).trans (df (o:=0) y1 _)) 0).trans (by simp)
 have k2:W.cell? ⟨p2,0,none⟩=some (.slice (some ⟨Q2,0,none⟩) 30 30):=by rw[hW];exact (cell_of (w:=World.drew _) (df (o:=0) ((DB (o:=0) (pM Mj) _).trans y2) _) 0).trans (by simp)
 rw[<-hW];refine bodyPost_ret (qni (g1:=p1) (g2:=p2) (v1:=.slice (some ⟨Q1,0,none⟩) 286 286) (v2:=.slice (some ⟨Q2,0,none⟩) 30 30) rfl _ _ _ rfl rfl ?_ ?_) rfl ?_
 ·exact qgf k1
 ·exact qgf k2
 ·refine⟨Q1,Q2,rfl,o5.fr fW (by simpa using⟨pM hn.1,pM hn.2.2.1⟩),?_,?_,HN.o2,HN.l3⟩
  ·exact (H5.o2.fr f5 (by simpa using pM hn.2.2.2.2)).fr fW (by simpa using⟨pM hn.2.1,pM hn.2.2.2.1⟩)
  ·refine ((HE.o1.step JA λx hx=>.inr ?_).step fW λx hx=>.inr ?_)
   ·have e:x=Q1\/x=Q2:=by simpa using hx
    rcases e with rfl|rfl
    ·exact HN.o2
    ·exact HN.l3
   ·have e:x=p1\/x=p2:=by simpa using hx
    have:=HP.out.1;have:=HP.out.2.1;have:=HW.l6;omega
end defl
namespace bits
open Go Go.RowKit lib bm
variable {L M p:Nat}
def pC (p:Nat) (F:LN) (w:World) (M L:Nat) (e:Ending) (w':World):Prop:=
 e = .returned (.tuple #[])/\Fr F w w'/\∃F',Wr w' p F' M L/\∀y∈F',y∈F\/w.heap.size<=y
theorem Ip (p:Nat) (F:LN) (M L:Nat) (x:Nat) (n:Int) (w:World) (hW:Wr w p F M L) (hx:x<4294967296) (hL:L<=562949953421312) :
  Calls Tryz.prog 449 #[.pointer (some ⟨p,0,none⟩),.int .u32 x,.int .i64 n] w (pC p F w (M+2^L*(x%2^(min n.toNat 32))) (L+min n.toNat 32)):=
 (zih p F M L x n w hW hx hL).mono λ_ _ h=>h
theorem Yx (p:Nat) (F:LN) (M L:Nat) (x n:Int) (w:World) (hW:Wr w p F M L) (iz:0<=x) (hx:x<4294967296) (hL:L<=562949953421312) :
  Calls Tryz.prog 449 #[.pointer (some ⟨p,0,none⟩),.int .u32 x,.int .i64 n] w (pC p F w (M+2^L*(x.toNat%2^(min n.toNat 32))) (L+min n.toNat 32)):=by
 obtain⟨x,rfl⟩:=Dz iz;exact Ip p F M L x n w hW (by omega) hL
theorem zjj {w w':World} {F S:LN} (h:Wr w p F M L) (hf:Fr S w w') (hn:∀x∈F,x∉S):Wr w' p F M L:=by obtain⟨v,⟨hr,aK,eI,hM⟩,rfl⟩:=h;exact⟨v,⟨hf.ag hr (hn p (by simp)),dp aK hf (λk hk=>hn k (by simp[hk])),eI,hM⟩,rfl⟩
theorem zji {w:World} {F:LN} (h:Wr w p F M L):∀x∈F,x<w.heap.size:=by
 obtain⟨v,⟨hr,aK,eI,hM⟩,rfl⟩:=h;intro x hx;rcases eX.1 hx with rfl|hx
 ·exact lt_of_block hr
 ·exact si aK (by simpa using hx)
theorem zfm (p:Nat) (F:LN) (M L:Nat) (x:Nat) (n:Int) (w:World) (hW:Wr w p F M L) (hx:x<4294967296) (hL:L<=562949953421200) :
  Calls Tryz.prog 448 #[.pointer (some ⟨p,0,none⟩),.int .u32 x,.int .i64 n] w (pC p F w (M+2^L*jJ x (min n.toNat 32) (min n.toNat 32)) (L+min n.toNat 32)):=by
 obtain⟨m,hm,MG⟩:∃m:Nat,m=min n.toNat 32/\m<=32:=⟨_,rfl,by omega⟩;have Hm:=af hm;rw[<-hm];clear hm;go_enter Tryz.func448,Tryz.ntmps448;go_upto_region 0 with fail;go_cut [6] (λs6 wc=>s6 = .int .i64 ((m:Int)-1)/\w=wc);case first=>go_wp2;all_goals (go_meet;exact⟨int_eq (by have:=Hm.out;omega),rfl⟩)
 case rest=>
 obtain⟨rfl,rfl⟩:=hcut;have HW:=af hW;clear hW;go_wp2;go_loopg [6] m (λk s6 wr=>∃j F',j+k=m/\s6 = .int .i64 ((k:Int)-1)/\Wr wr p F' (M+2^L*jJ x m j) (L+j)/\Fr F w wr/\∀y∈F',y∈F\/w.heap.size<=y);case atStart=>exact⟨0,F,by omega,rfl,by simpa[jJ] using HW.out,Fr.refl _ _,λy hy=>.inl hy⟩
 case round=>
  obtain⟨j,F',fP,rfl,aJ,dM,hF⟩:=hrel;by_cases hk:gk=0
  ·subst hk;obtain rfl:j=m:=by omega
   go_wp2;go_end0;exact⟨rfl,dM,F',aJ,hF⟩
  ·obtain⟨k,rfl⟩:∃k,gk=k+1:=⟨gk-1,by omega⟩;have MT:(0:Int)<=(((k+1:Nat):Int)-1):=by omega
   have hd:x/2^k<4294967296:=Io (Nat.div_le_self _ _) hx;have lO:((x:Int)/2^k)=((x/2^k:Nat):Int):=by rw[xb,<-Int.natCast_ediv]
   have jt:(0:Int)<=(x:Int)/2^k:=by rw[lO];exact Int.natCast_nonneg _
   have hd3:(x:Int)/2^k<4294967296:=by rw[lO];omega
   have Hd1:=af lO;clear lO;have NC:L+j<=562949953421312:=by omega
   go_wp2_with (go_at_call 449;refine (Yx p F' _ (L+j) _ _ _ aJ jt hd3 NC).mono ?_;rintro e w' ⟨rfl,qA,F1,cC,zH⟩);go_roundg k;case measure=>omega
   case rel=>
    have e1:j=m-1-k:=by omega
    have j7:m-1-j=k:=by omega
    refine⟨j+1,F1,by omega,int_eq (by omega),?_,dM.step qA hF,λy hy=>?_⟩
    ·have e3:((x:Int)/2^k).toNat=x/2^k:=by rw[Hd1.out,xZ]
     have tq:Wr w' p F1 (M+2^L*jJ x m j+2^(L+j)*(x/2^k%2)) (L+j+1):=by simpa[e3] using cC
     have e2:=zby M L x m j;rw[j7]at e2;rw[<-e2];exact tq
    ·rcases zH y hy with h|h
     ·exact hF y h
     ·right;have:=dM.size;omega
theorem qwn (p:Nat) (F:LN) (M L:Nat) (w:World) (hW:Wr w p F M L) (hL:L<=562949953421200) :
  Calls Tryz.prog 454 #[.pointer (some ⟨p,0,none⟩)] w (pC p F w M ((L+7)/8*8)):=by
 have HW:=af hW;obtain⟨v,⟨hr,aK,eI,hM⟩,rfl⟩:=hW;have c2:=cell_of hr 2;simp only[dJ,dk,dU]at c2;clear hr aK;by_cases h0:L%8=0
 ·have h1:decide ((0:Int)<((L%8:Nat):Int))=false:=by simp;omega
  go_enter Tryz.func454,Tryz.ntmps454;go_wp2;go_end0;refine⟨rfl,Fr.refl _ _,_,?_,λy hy=>.inl hy⟩;rw[show (L+7)/8*8=L from by omega];exact HW.out
 ·have h1:decide ((0:Int)<((L%8:Nat):Int))=true:=by simp;omega
  have NC:L<=562949953421312:=by omega
  go_enter Tryz.func454,Tryz.ntmps454;go_wp2_with (go_at_call 449;refine (Yx p _ M L _ _ _ HW.out (by omega) (by omega) NC).mono ?_;rintro e w' ⟨rfl,qA,F1,cC,zH⟩);go_end0;refine⟨rfl,qA,F1,?_,zH⟩;have e1:(8-(L:Int)%8).toNat=8-L%8:=by omega
  have e2:L+min (8-L%8) 32=(L+7)/8*8:=by omega
  rw[<-e2];simpa[e1] using cC
theorem Sv (p:Nat) (F:LN) (M L:Nat) (ao:OA) (cap:Nat) (bs:LB) (w:World) (hW:Wr w p F M L) (hcs:Cs w ao (bs.map bv)) (dI:bs.length<=cap) (bU:ao=none->cap=0)
  (cS:bs≠[]->∀x∈ag ao,x∉F) (hL:L+8*bs.length<=562949953421200) :
  Calls Tryz.prog 453 #[.pointer (some ⟨p,0,none⟩),.slice ao bs.length cap] w (pC p F w (M+2^((L+7)/8*8)*num bs) ((L+7)/8*8+8*bs.length)):=by
 have sI:L<=562949953421200:=by omega
 have sH:=qwn p F M L w hW sI;obtain⟨q,hq,hqL⟩:∃q,(L+7)/8=q/\8*q<=L+7:=⟨_,rfl,by omega⟩;rw[hq]at sH ⊢;have Hal:=af sH;clear sH hq;go_enter Tryz.func453,Tryz.ntmps453;go_upto_region 0 with fail;go_cut [] (λwc=>Fr F w wc/\∃F',Wr wc p F' M (q*8)/\∀y∈F',y∈F\/w.heap.size<=y);case first=>go_wp2_with (go_at_call 454;refine Hal.out.mono ?_;rintro e w' ⟨rfl,qA,aJ⟩);go_meet;exact⟨qA,aJ⟩
 case rest=>
 obtain⟨qA,F',q9,Q5⟩:=hcut;obtain⟨v,⟨hr,aK,eI,hM⟩,rfl⟩:=q9;rw[show q*8/8=q from by omega]at aK hr;rw[show q*8%8=0 from by omega]at hr;have QX:M<2^(8*q):=by rwa [pO]
 have zw:Cs wc ao (bs.map bv):=by
  by_cases tU:bs=[]
  ·exact .inl (by rw[tU];rfl)
  ·exact hcs.fr qA (cS tU)
 have c0:=cell_of hr 0;have f0:=aT hr 0;simp only[dJ,dk]at c0;have Hr:=af hr;clear hr;go_wp2_with (refine fq aE rfl _ _ rfl v q _ v.ownBlock.toList rfl rfl aK ao bs.length cap (bs.map bv) rfl dI bU zw (by simp) (qI bs) (by omega) (by unfold maxLen;omega) ?_;intro j9 gh w1 A1;have jR:=A1.fr.ag Hr.out (by simpa using eI);have d1:=cell_of jR 0;have g1:=aT jR 0;simp only[dJ,dk]at d1);go_end0;have bg:(Value.slice j9 (q+bs.length) gh).ownBlock≠some p:=by
  intro h;have h2:=lt_of_block Hr.out;rcases A1.at_ p (by rw[<-cY j9 (q+bs.length) gh,h];simp) with h1|h1
  ·exact eI (by simpa using h1)
  ·omega
 have ft:Fr F w w1:=qA.step A1.fr (λk hk=>Q5 k (by simp[Ii.1 hk]));refine⟨rfl,?_,_,⟨.slice j9 (q+bs.length) gh,⟨?_,?_,bg,?_⟩,rfl⟩,?_⟩
 ·exact ft.setCell (by have:=Q5 p (by simp);simpa using this) _
 ·refine (df jR _).trans ?_;have hd:=Xs q M bs QX;rw[show q*8+8*bs.length=8*(q+bs.length) from by omega,Nat.mul_div_cancel_left _ (by omega:0<8),Nat.mul_mod_right,show q*8=8*q from by omega,
   Ib QX,Ib (by rw[yD];exact hd)]
  rfl
 ·rw[show q*8+8*bs.length=8*(q+bs.length) from by omega,Nat.mul_div_cancel_left _ (by omega:0<8),show q*8=8*q from by omega,zg3 q M bs QX,jd];exact ownsRow_setCell_other A1.own bg _
 ·rw[show q*8=8*q from by omega];exact Xs q M bs QX
 ·intro y hy;rcases eX.1 hy with rfl|hy
  ·exact Q5 _ (by simp)
  ·rw[cY]at hy;rcases A1.at_ y hy with h|h
   ·exact Q5 y (by simp[Ii.1 h])
   ·right;have:=qA.size;omega
def mQ (M L:Nat) (w:World) (e:Ending) (w':World):Prop:=
 ∃ao,e = .returned (.slice ao ((L+7)/8) ((L+7)/8))/\iL w' w.heap.size 5 ao ((j8 ((L+7)/8) M).map bv)/\(ao=none->(L+7)/8=0)/\(∀x∈ag ao,w.heap.size<=x)/\Fr [] w w'
theorem qwl (p:Nat) (F:LN) (M L:Nat) (w:World) (hW:Wr w p F M L) (hL:L<=562949953421200) :
  Calls Tryz.prog 290 #[.pointer (some ⟨p,0,none⟩)] w (mQ M L w):=by
 obtain⟨v,⟨hr,aK,eI,hM⟩,rfl⟩:=hW;obtain⟨ao,cap,rfl,bR,gp,zC⟩:=Pv aK;have hcs:=qK aK;obtain⟨q,hq⟩:∃q,L/8=q:=⟨_,rfl⟩;rw[hq]at hr aK hcs eI bR;have hlen:((j8 q M).map bv).length=q*1:=by simp[PF]
 have c0:=cell_of hr 0;have c1:=cell_of hr 1;have c2:=cell_of hr 2;simp only[dJ,dk,dU]at c0 c1 c2;have Hr:=af hr;clear hr;have Hq:=af hq;have Mi:8*q<=L:=by omega
 clear hq;go_enter Tryz.func290,Tryz.ntmps290;go_upto_region 1 with fail;go_cut [3] (λs3 wc=>∃j9 gh,s3 = .slice j9 q gh/\aN w wc 5 1 [] j9 q gh ((j8 q M).map bv));case first=>go_wp2_with (refine fq aE rfl _ _ rfl (.slice none 0 0) 0 [] [] rfl rfl (oE _ _ _ _) ao q cap _ rfl bR zC hcs hlen (qI _) (by omega) (by unfold maxLen;omega) ?_;intro j9 gh w1 A1;simp only[iN,sS]at A1);go_meet;exact⟨j9,gh,rfl,A1⟩
 case rest=>
 obtain⟨j9,gh,rfl,A1⟩:=hcut;have jR:=A1.fr.ag Hr.out (by simp);have d1:=cell_of jR 1;have d2:=cell_of jR 2;simp only[dJ,dk,dU]at d1 d2;have Hb1:=af jR;clear jR;by_cases h0:L%8=0
 ·have h1:decide ((0:Int)<((L%8:Nat):Int))=false:=by simp;omega
  have hle:=A1.le;go_wp2;all_goals go_ret
  all_goals
   have e:(L+7)/8=q:=by have:=Hq.out;omega
   have hb:∀x∈ag j9,w.heap.size<=x:=λx hx=>by have:=A1.at_ x hx;simp at this;omega
   unfold mQ
   rw[e]
   exact⟨j9,by first|rfl|simp,P9 A1.own hb,λh=>by have:=A1.nil h;omega,hb,A1.fr⟩
 ·have h1:decide ((0:Int)<((L%8:Nat):Int))=true:=by simp;omega
  have Bd:Value.int .u8 (IntKind.u8.wrap ((M/2^(8*q):Nat):Int))=bv (UInt8.ofNat (M/2^(8*q))):=YQ _;obtain⟨W,hW⟩:∃W:Nat,W=M/2^(8*q):=⟨_,rfl⟩;rw[<-hW]at d1 Bd;rw[IntKind.wrap_u8']at Bd;have HW:=af hW;have Hbv:=af Bd;clear hW Bd;have hb:∀x∈ag j9,w.heap.size<=x:=λx hx=>by have:=A1.at_ x hx;simp at this;omega
  have Hb:=af hb;clear hb c1;go_upto_region 3 with fail;go_cut [3] (λs3 wz=>∃cM dr,s3 = .slice cM (q+1) dr/\wz.ownsRow 0 5 1 (.slice cM (q+1) dr) (q+1) ((j8 (q+1) M).map bv)/\(∀x∈ag cM,w.heap.size<=x)/\Fr [] w wz/\q+1<=dr);case first=>
   go_wp2_with (refine fq aE rfl _ _ rfl (.slice j9 q gh) q _ (ag j9) rfl (cY _ _ _) (A1.own.alloc _) _ 1 1 _ rfl (by decide) (by simp) (by exact nD _ _ _ _ (aV _ _)) (by rfl) (by simp[Value.oneCell']) (by omega) (by unfold maxLen;omega) ?_;intro cM dr w2 A2);go_meet;have cZ:=A1.fr.size;refine⟨cM,dr,rfl,?_,λx hx=>?_,((A1.fr.alloc _).step A2.fr λx hx=>?_),A2.le⟩
   ·have h:=A2.own;rw[Hbv.out,HW.out]at h;rw[YX,jd];exact h
   ·rcases A2.at_ x hx with h|h
    ·exact Hb.out x h
    ·simp at h;omega
   ·right;exact Hb.out x hx
  case rest=>
  obtain⟨cM,dr,rfl,nH,mF,ft,hle⟩:=hcut;have Hb2:=af mF;clear mF;go_wp2;all_goals go_ret
  all_goals
   have e:(L+7)/8=q+1:=by have:=Hq.out;omega
   unfold mQ
   rw[e]
   refine⟨cM,by first|rfl|simp,P9 nH Hb2.out,λh=>?_,Hb2.out,ft⟩
   rcases nH.2 with⟨h3,_⟩|⟨g,cap,cur,h3,_⟩
   ·simp at h3
   ·subst h;simp at h3
end bits
namespace wb
open Go Go.RowKit lib bm bl
variable {l:List Bool}
def Wb (w:World) (p:Nat) (F:LN) (l:List Bool):Prop:=bits.Wr w p F (cz l) l.length
def cL (p:Nat) (F:LN) (w:World) (l:List Bool) (e:Ending) (w':World):Prop:=
 e = .returned (.tuple #[])/\Fr F w w'/\∃F',Wb w' p F' l/\∀y∈F',y∈F\/w.heap.size<=y
theorem wY {w w':World} {p:Nat} {F S:LN} (h:Wb w p F l) (f:Fr S w w') (hn:∀x∈F,x∉S):Wb w' p F l:=bits.zjj h f hn
theorem Hw {w:World} {p:Nat} {F:LN} (h:Wb w p F l):∀x∈F,x<w.heap.size:=bits.zji h
theorem RD (p:Nat) (F:LN) (l:List Bool) (x:Nat) (n:Int) (w:World) (h:Wb w p F l) (hx:x<4294967296) (hL:l.length<=562949953421312) :
  Calls Tryz.prog 449 #[.pointer (some ⟨p,0,none⟩),.int .u32 x,.int .i64 n] w (cL p F w (l++dA (min n.toNat 32) x)):=by
 have:=bits.Ip p F (cz l) l.length x n w h hx hL;refine this.mono λe w' ⟨h1,h2,F',h3,h4⟩=>⟨h1,h2,F',?_,h4⟩
 unfold Wb;rw[DC,Pc,aG,ar];exact h3
theorem zjc (p:Nat) (F:LN) (l:List Bool) (x:Nat) (n:Int) (w:World) (h:Wb w p F l) (hx:x<4294967296) (hL:l.length<=562949953421200) :
  Calls Tryz.prog 448 #[.pointer (some ⟨p,0,none⟩),.int .u32 x,.int .i64 n] w (cL p F w (l++msb (min n.toNat 32) x)):=by
 have:=bits.zfm p F (cz l) l.length x n w h hx hL;refine this.mono λe w' ⟨h1,h2,F',h3,h4⟩=>⟨h1,h2,F',?_,h4⟩
 unfold Wb;rw[DC,zfp,aG,Dq];exact h3
theorem W8 (p:Nat) (F:LN) (l:List Bool) (ao:OA) (cap:Nat) (bs:LB) (w:World) (h:Wb w p F l) (hr:lib.Rd w ao cap bs) (cS:bs≠[]->∀x∈ag ao,x∉F)
  (hL:l.length+8*bs.length<=562949953421200) :
  Calls Tryz.prog 453 #[.pointer (some ⟨p,0,none⟩),.slice ao bs.length cap] w (cL p F w (eG l++ak bs)):=by
 have:=bits.Sv p F (cz l) l.length ao cap bs w h hr.cs hr.le hr.nil cS hL;refine this.mono λe w' ⟨h1,h2,F',h3,h4⟩=>⟨h1,h2,F',?_,h4⟩
 unfold Wb;rw[DC,YS,IK,aG,I0,su];exact h3
theorem XM (p:Nat) (F:LN) (l:List Bool) (w:World) (h:Wb w p F l) (h0:0<l.length) (hL:l.length<=562949953421200) :
  Calls Tryz.prog 290 #[.pointer (some ⟨p,0,none⟩)] w (aZ w (bytesOf l)):=by
 have:=bits.qwl p F (cz l) l.length w h hL;refine this.mono λe w' ⟨ao,h1,h2,h3,h4,h5⟩=>⟨ao,by rw[BQ];exact h1,⟨h2.cs,ax _,by rw[BQ];unfold maxLen;omega,λhn=>by rw[BQ];exact h3 hn⟩,λx hx=>⟨h4 x hx,?_⟩,h5⟩
 rcases h2 with h2|⟨g,cur,rfl,_,hg,_⟩
 ·have:=congrArg List.length h2;rw[gx,PF,jK]at this;omega
 ·simp[ag]at hx;rw[hx];exact lt_of_block hg
end wb
namespace defl
open Go Go.RowKit lib bm bl wb
theorem zhj (b:Bool):dA 1 (if b then 1 else 0)=[b]:=by cases b<;>rfl
theorem SF (p:Nat) (F:LN) (l:List Bool) (last:Bool) (kind:Nat) (w:World) (h:Wb w p F l) (hk:kind<4294967296) (hL:l.length<=562949953421000) :
  Calls Tryz.prog 445 #[.pointer (some ⟨p,0,none⟩),.bool last,.int .u32 kind] w (cL p F w (l++last::dA 2 kind)):=by
 have h1:=RD p F l (if last then 1 else 0) 1 w h (by split<;>decide) (by omega);have h2:=λw F h=>RD p F (l++[last]) kind 2 w h hk (by rw[aG,BO];omega)
 have e1:dA (min (1:Int).toNat 32) (if last then 1 else 0)=[last]:=zhj last;have e2:dA (min (2:Int).toNat 32) kind=dA 2 kind:=rfl;rw[e1]at h1;simp only[e2,fU,List.singleton_append]at h2;unfold cL at h1 h2;have H:=af h2;clear h2 e1 e2 h;cases last with
 | true=>
  have H1:=af h1;clear h1;go_enter Tryz.func445,Tryz.ntmps445;go_upto_region 4 with (go_at_call 449;refine H1.out.mono ?_;rintro e w1 ⟨rfl,f1,F1,W1,n1⟩);have H2:=aq f1 n1 (H.out w1 F1 W1);clear f1 n1 W1;go_wp2_with (go_at_call 449;refine H2.out.2.2.mono ?_;rintro e w2 ⟨rfl,f2,F2,W2,n2⟩);go_end0;unfold cL;exact⟨rfl,H2.out.1.step f2 (λy hy=>by rcases H2.out.2.1 y hy with k|k;exact .inl k;exact .inr k),F2,W2,λy hy=>by rcases n2 y hy with k|k;exact H2.out.2.1 y k;exact .inr (bP H2.out.1.size k)⟩
 | false=>have H1:=af h1;clear h1;go_enter Tryz.func445,Tryz.ntmps445;go_upto_region 4 with (go_at_call 449;refine H1.out.mono ?_;rintro e w1 ⟨rfl,f1,F1,W1,n1⟩);have H2:=aq f1 n1 (H.out w1 F1 W1);clear f1 n1 W1;go_wp2_with (go_at_call 449;refine H2.out.2.2.mono ?_;rintro e w2 ⟨rfl,f2,F2,W2,n2⟩);go_end0;unfold cL;exact⟨rfl,H2.out.1.step f2 (λy hy=>by rcases H2.out.2.1 y hy with k|k;exact .inl k;exact .inr k),F2,W2,λy hy=>by rcases n2 y hy with k|k;exact H2.out.2.1 y k;exact .inr (bP H2.out.1.size k)⟩
def ox (n:Nat):List UInt8:=[UInt8.ofNat n,UInt8.ofNat (n/256),UInt8.ofNat (255-n%256),UInt8.ofNat (255-n/256%256)]
theorem yx (x:Nat) (h:x<256):bits .xor .u8 IntKind.u8.max ((x:Nat):Int)=((255-x:Nat):Int):=by
 have h1:∀x:Fin 256,bits .xor .u8 IntKind.u8.max (x.1:Int)=((255-x.1:Nat):Int):=by decide +kernel
 exact h1 ⟨x,h⟩
theorem qzb (n c1 c2:Nat) (h:n<=65535) (h1:c1=255-n%256) (h2:c2=255-n/256%256):(ox n).map bv=[.int .u8 ((n:Int)%256),.int .u8 ((n:Int)/256),.int .u8 c1,.int .u8 c2]:=by simp only[ox,jL,qg,bv,xd];refine De.2 ⟨int_eq (by omega),De.2 ⟨int_eq (by omega),De.2 ⟨int_eq (by omega),De.2 ⟨int_eq (by omega),rfl⟩⟩⟩⟩
def aR (l:List Bool) (last:Bool) (b:LB):List Bool:=eG (l++last::dA 2 0)++ak (ox b.length)++ak b
theorem IZ (l:List Bool) (last:Bool) (b:LB):(aR l last b).length=(l.length+10)/8*8+32+8*b.length:=by unfold aR;rw[aG,aG,I0,su,su,aG,dw,ar];show (l.length+(2+1)+7)/8*8+8*4+8*b.length=_;omega
theorem qqm (p:Nat) (F:LN) (l:List Bool) (last:Bool) (a:OA) (cap:Nat) (b:LB) (w:World) (h:Wb w p F l) (hr:lib.Rd w a cap b) (cS:b≠[]->∀x∈ag a,x∉F)
  (hL:l.length<=549755813888) (hb:b.length<=65535) :
  Calls Tryz.prog 452 #[.agg #[.slice a b.length cap],.pointer (some ⟨p,0,none⟩),.bool last] w (cL p F w (aR l last b)):=by
 obtain⟨n,hn⟩:=ah b.length;have hle:=hr.le;rw[<-hn]at hle hb ⊢;have f0:Fr [] w (w.alloc (.cells #[.slice a n cap] 405)):=(Fr.refl [] w).alloc _;have qM:(w.alloc (.cells #[.slice a n cap] 405)).heap.size=w.heap.size+1:=ik _ _;have mv:=aV w (.cells #[.slice a n cap] 405);have hh:=SF p F l last 0 _ (wY h f0 (by simp)) (by decide) (by omega);unfold cL at hh;have bF:=Hw h;have H:=eW hh f0 mv (And.intro hr cS) hn bF qM;clear hh f0 mv hr cS hn bF qM h;go_enter Tryz.func452,Tryz.ntmps452;go_upto_region 2 with (go_at_call 445;refine H.o0.mono ?_;rintro e w1 ⟨rfl,f1,F1,W1,n1⟩);obtain⟨B,hB⟩:=ah w.heap.size;have Jz:B∉F:=λhm=>by have:=H.o5 B hm;omega
 have jR:=f1.ag H.o2 (by rw[<-hB];exact Jz);rw[<-hB]at jR ⊢;have cb1:=cell_of jR 0;simp only[dJ,dk]at cb1;have H1:=aQ f1 n1 W1 jR hB;clear f1 n1 W1 jR hB;obtain⟨c1,bR⟩:∃c,c=255-n%256:=⟨_,rfl⟩;obtain⟨c2,gp⟩:∃c,c=255-n/256%256:=⟨_,rfl⟩;have x1:bits .xor .u8 IntKind.u8.max ((n:Int)%256)=(c1:Int):=by have:=yx (n%256) (by omega);rw[bR,<-this];rfl
 have x2:bits .xor .u8 IntKind.u8.max ((n:Int)/256)=(c2:Int):=by have:=yx (n/256) (by omega);rw[gp,show n/256%256=n/256 from by omega,<-this];rfl
 have hm:=qzb n c1 c2 hb bR gp;have hr4:lib.Rd (w1.alloc (.cells #[.int .u8 ((n:Int)%256),.int .u8 ((n:Int)/256),.int .u8 c1,.int .u8 c2] 5)) (some ⟨w1.heap.size,0,none⟩) 4 (ox n):=
  ⟨by rw[hm];exact oC w1 _ _ _,ax _,by decide,λh=>by cases h⟩
 have f2:Fr [] w1 (w1.alloc (.cells #[.int .u8 ((n:Int)%256),.int .u8 ((n:Int)/256),.int .u8 c1,.int .u8 c2] 5)):=(Fr.refl [] w1).alloc _;have hlen:(l++last::dA 2 0).length=l.length+3:=by rw[aG,dw,ar]
 have iA:=W8 p F1 (l++last::dA 2 0) _ 4 (ox n) _ (wY H1.out.2.2.1 f2 (by simp)) hr4 (λ_ x hx hm=>by have:=Hw H1.out.2.2.1 x hm;simp[ag]at hx;omega) (by rw[hlen];show _+8*4<=_;omega);unfold cL at iA;have H2:=aq iA f2 hlen;clear bR gp hm hr4 f2 iA hlen;go_upto_region 4 with (go_at_call 453;refine H2.o0.mono ?_;rintro e w3 ⟨rfl,f3,F3,W3,n3⟩);have zN:Fr F w w3:=((H.o1.mono (by simp)).step H1.out.1 (λy hy=>.inl hy)).step (H2.o1.mono (T:=F1) (by simp) |>.trans f3) (λy hy=>by
  rcases H1.out.2.1 y hy with k|k
  ·exact .inl k
  ·right
   have:=H.l6
   omega)
 have Jz:B∉F1:=λhm=>by
  have k1:=H1.out.2.2.2.2;rcases H1.out.2.1 B hm with k|k
  ·have:=H.o5 B k;omega
  ·have:=H.l6;omega
 have uA:=f3.ag (H2.o1.ag H1.out.2.2.2.1 (by simp)) Jz;have cb3:=cell_of uA 0;simp only[dJ,dk]at cb3;have Vg:∀y∈F3,y∈F\/w.heap.size<=y:=λy hy=>by
  have k0:=H.l6;have k3:=H1.out.1.size;have k4:=H2.o1.size;rcases n3 y hy with k|k
  ·rcases H1.out.2.1 y k with k2|k2
   ·exact .inl k2
   ·right;omega
  ·right;omega
 have Mf:lib.Rd w3 a cap b:=C4 H.o3.1 zN H.o3.2;have iA:=W8 p F3 _ a cap b w3 W3 Mf (λbg x hx hm=>by
  rcases Vg x hm with k|k
  ·exact H.o3.2 bg x hx k
  ·have:=Hy H.o3.1 bg x hx;omega) (by
   rw[aG,I0,su,H2.l2,<-H.o4]
   show (l.length+3+7)/8*8+8*4+8*n<=_
   omega)
 have hp8:eG (eG (l++last::dA 2 0)++ak (ox n))++ak b=aR l last b:=by rw[qzr _ (by rw[aG,I0,su];omega),aR,<-H.o4]
 rw[hp8,<-H.o4]at iA;unfold cL at iA;have H3:=aq iA zN Vg;clear iA zN Vg Mf hp8 f3 n3 W3 uA cb1;go_wp2_with (go_at_call 453;refine H3.o0.mono ?_;rintro e w4 ⟨rfl,f4,F4,W4,n4⟩);go_end0;unfold cL;refine⟨rfl,H3.o1.step f4 H3.l2,F4,W4,λy hy=>?_⟩;rcases n4 y hy with k|k
 ·exact H3.l2 y k
 ·exact .inr (bP H3.o1.size k)
end defl
namespace lib
open Go Go.RowKit Go.ChangeShapes Go.WideShapes
structure Rv where
 ao:Option Addr
 cap:Nat
 bs:List UInt8
def Rv.val (r:Rv):Value:=.slice r.ao r.bs.length r.cap
end lib
namespace defl
open Go Go.RowKit lib bm bl wb
def kH (r:Rv):Value:=.iface 405 (.agg #[.slice r.ao r.bs.length r.cap])
def aH (l:List Bool):List (List UInt8)->List Bool
 | []=>l
 | b::t=>aH (aR l (t.isEmpty) b) t
theorem qkn:∀(t:List (List UInt8)) (l:List Bool),l.length<=(aH l t).length
 | [],_=>ax _
 | b::t,l=>by have:=qkn t (aR l t.isEmpty b);rw[IZ]at this;rw[aH];omega
theorem qo7 (t:List (List UInt8)) (l:List Bool) (h:0<t.length):0<(aH l t).length:=by
 cases t with
 | nil=>simp at h
 | cons b t=>have:=qkn t (aR l t.isEmpty b);rw[IZ]at this;rw[aH];omega
theorem Xo (w:World):Wb (w.alloc (.cells #[.slice none 0 0,.int .u64 0,.int .i64 0] 412)) w.heap.size [w.heap.size] []:=
 ⟨.slice none 0 0,⟨aV w _,oE _ _ _ _,by simp[Value.ownBlock],by decide⟩,rfl⟩
theorem qne (a:OA) (cap:Nat) (rows:List Rv) (w:World) (hcs:Cs w a (rows.map kH)) (hle:rows.length<=cap) (dI:cap<=maxLen)
  (ec:∀r∈rows,lib.Rd w r.ao r.cap r.bs/\r.bs.length<=65535) (h0:0<rows.length) (hn:rows.length<=100000) :
  Calls Tryz.prog 242 #[.slice a rows.length cap] w (aZ w (bytesOf (aH [] (rows.map Rv.bs)))):=by
 obtain⟨n,rG⟩:=ah rows.length;rw[<-rG]at hle h0 hn ⊢;unfold maxLen at dI;obtain⟨g0,o0,rfl,hc⟩:=hcs.at (by rw[gx];omega);have H:=aq hc ec rG;clear hc ec rG hcs;go_enter Tryz.func242,Tryz.ntmps242;go_upto_block 0 with fail;obtain⟨p,hp⟩:=ah w.heap.size;have w0:=Xo w;have f0:Fr [] w (w.alloc (.cells #[.slice none 0 0,.int .u64 0,.int .i64 0] 412)):=(Fr.refl [] w).alloc _;rw[<-hp]at w0 ⊢;have H0:=aq w0 f0 hp;clear w0 f0 hp;go_wp2;go_loopg [4,5,6,7,10] n (λk s4 s5 s6 s7 s10 wr=>∃(i:Nat) (F:LN) (l:List Bool),s10 = .int .i64 (i:Nat)/\i+k=n/\Wb wr p F l/\Fr [] w wr/\(∀x∈F,w.heap.size<=x)/\l.length<=i*524360/\aH l ((rows.drop i).map Rv.bs)=aH [] (rows.map Rv.bs));case atStart=>exact⟨0,[p],[],rfl,by omega,H0.o0,H0.o1,λx hx=>by simp at hx;rw[hx,H0.l2];exact ax _,ax _,rfl⟩
 case round=>
  obtain⟨i,F,l,rfl,cQ,hW,hf,hF,hl,ct⟩:=hrel;by_cases hi:i<n
  ·obtain⟨k,rfl⟩:∃k,gk=k+1:=⟨gk-1,by omega⟩;have Jn:i<rows.length:=by rw[<-H.out.2.2];exact hi
   have sG:=hf.cell (H.out.1 i (kH rows[i]) (by rw[qe,dm Jn];rfl)) (by simp);obtain⟨eY,hlen⟩:=H.out.2.1 rows[i] (sk Jn);unfold kH at sG;have hdr:(rows.drop i).map Rv.bs=rows[i].bs::(rows.drop (i+1)).map Rv.bs:=by rw[xg Jn,jL]
   rw[hdr,aH]at ct;obtain⟨b,hb⟩:=ah (rows[i].bs);obtain⟨ba,Nn⟩:∃b,b=rows[i].ao:=⟨_,rfl⟩;obtain⟨bc,CF⟩:∃b,b=rows[i].cap:=⟨_,rfl⟩;obtain⟨bn,qZ⟩:∃n,n=b.length:=⟨_,rfl⟩;rw[<-hb]at sG eY hlen ct;rw[<-Nn,<-CF,<-qZ]at sG;rw[<-Nn,<-CF]at eY;rw[<-qZ]at hlen;have HR:=aq eY qZ ct;have HW:=aA hW hf hF hl;clear eY qZ ct hW hf hF hl hdr hb Nn CF;have d1:decide ((65535:Int)<bn)=false:=by simp;omega
   have uv:∀w:World,(Instr.typeAssert (.iface 405 (.agg #[.slice ba bn bc])) 414 405 true).run Tryz.prog w = .ok (.tuple #[.agg #[.slice ba bn bc],.bool true]) w:=λ_=>by kernel_rfl
   have zp:∀(f:Nat) (w:World),(method (f+1) 405 (.agg #[.slice ba bn bc]) "stemma/deflate.write").run Tryz.prog w = .ok (452,.agg #[.slice ba bn bc]) w:=λ_ _=>by kernel_rfl
   have ML:((i:Int)==(n:Int)-1)=((rows.drop (i+1)).map Rv.bs).isEmpty:=by rw[Bool.eq_iff_iff,List.isEmpty_iff];simp only[beq_iff_eq,List.map_eq_nil_iff,List.drop_eq_nil_iff,<-H.l2];omega
   obtain⟨lst,FX⟩:∃b,b=((rows.drop (i+1)).map Rv.bs).isEmpty:=⟨_,rfl⟩;rw[<-FX]at ML;have f1:Fr [] wr (wr.alloc (.cells #[.slice ba bn bc] 405)):=(Fr.refl [] wr).alloc _;have gS:(wr.alloc (.cells #[.slice ba bn bc] 405)).heap.size=wr.heap.size+1:=ik _ _;have Ce:=qqm p F l lst ba bc b _ (wY HW.o0 f1 (by simp)) ((HR.o0.fr HW.o1).fr f1) (λbg x hx hm=>by have:=Hy HR.o0 bg x hx;have:=HW.o2 x hm;omega) (by have:=HW.l3;omega) (by rw[<-HR.o1];exact hlen);rw[<-HR.o1]at Ce;unfold cL at Ce;have HS:=aA Ce f1 gS FX;clear Ce f1 gS FX;go_wp2_with (go_at_call 452;refine HS.o0.mono ?_;rintro e w2 ⟨rfl,f2,F2,W2,n2⟩;have H2:=aq f2 W2 n2;clear f2 W2 n2);go_roundg k;case measure=>omega
   case rel=>
    have k1:=HW.o1.size;have k2:=HS.o2;refine⟨i+1,F2,aR l lst b,by go_num,by omega,H2.out.2.1,(HW.o1.trans HS.o1).step H2.out.1 (λy hy=>.inr (HW.o2 y hy)),λy hy=>?_,?_,?_⟩
    ·rcases H2.out.2.2 y hy with h|h
     ·exact HW.o2 y h
     ·omega
    ·rw[IZ,<-HR.o1];have:=HW.l3;omega
    ·rw[HS.l3];exact HR.l2
  ·obtain rfl:i=n:=by omega
   have Na:rows.drop i=[]:=Ax (by rw[<-H.l2];exact ax _);rw[Na]at ct;have mr:=XM p F l wr hW (by
    have:0<l.length:=by
     rw[<-show aH l (List.map Rv.bs [])=l from rfl,ct]
     exact qo7 _ _ (by rw[gx,<-H.l2];exact h0)
    exact this) (by omega)
   have e:bytesOf l=bytesOf (aH [] (rows.map Rv.bs)):=by rw[<-ct];rfl
   rw[e]at mr;unfold aZ at mr;have HB:=ai mr hf;clear mr hW hf hF hl ct Na e;go_wp2_with (go_at_call 290;refine HB.o0.mono ?_;rintro e w2 ⟨a2,rfl,r2,n2,f2⟩);go_ret;unfold aZ;exact⟨a2,rfl,r2,λx hx=>⟨bP HB.l1.size (n2 x hx).1,(n2 x hx).2⟩,HB.l1.trans f2⟩
def chunks:Nat->List UInt8->List (List UInt8)
 | 0,b=>[b]
 | f+1,b=>if 65535<b.length then b.take 65535::chunks f (b.drop 65535) else [b]
theorem qr7 {f:Nat} {b:LB} (h:b.length<=65535):chunks f b=[b]:=by
 cases f with
 | zero=>rfl
 | succ f=>rw[chunks,if_neg (by omega)]
def gI (b:LB):List Bool:=aH [] (chunks b.length b)
def aL (b:LB):List UInt8:=bytesOf (gI b)
theorem wO:aw Tryz.prog 354 414 .nilIface 1 16:=aw.of Tryz.underlying354 (by kernel_rfl) rfl (by decide)
structure Pl (w wr:World) (rows:List Rv) (ao:OA) (c:Nat):Prop where
 own:wr.ownsRow 0 414 1 (.slice ao rows.length c) rows.length (rows.map kH)
 fr:Fr [] w wr
 new:∀x∈ag ao,w.heap.size<=x
 row:∀r∈rows,lib.Rd w r.ao r.cap r.bs/\r.bs.length<=65535
theorem Pl.push {w wr w2:World} {rows:List Rv} {ao a2:OA} {c c2 n:Nat} (h:Pl w wr rows ao c) (r:Rv) (o:Obj) (hn:rows.length=n) (hr:lib.Rd w r.ao r.cap r.bs/\r.bs.length<=65535)
  (A:aN (wr.alloc o) w2 414 1 (ag ao) a2 (n+1) c2 (rows.map kH++[kH r])):Pl w w2 (rows++[r]) a2 c2:=by
 have f1:Fr [] wr (wr.alloc o):=(Fr.refl [] wr).alloc o;refine⟨by rw[aG,BO,jd,hn];exact A.own,(h.fr.trans f1).step A.fr λy hy=>.inr (h.new y hy),λy hy=>?_,λx hx=>?_⟩
 ·rcases A.at_ y hy with k|k
  ·exact h.new y k
  ·have:=h.fr.size;rw[ik]at k;omega
 ·rcases jo.1 hx with k|k
  ·exact h.row x k
  ·rw[eF.1 k];exact hr
theorem zc9 {m n rl t n2 r2:Nat} (h:n*m+rl=t) (hb:m<=rl) (h1:n2=n+1) (h2:r2=rl-m):n2*m+r2=t:=by subst h1 h2;rw[Nat.succ_mul];omega
theorem qq2 (a:OA) (cap:Nat) (b:LB) (w:World) (h:lib.Rd w a cap b) (hlen:b.length<=1000000) :
  Calls Tryz.prog 239 #[.slice a b.length cap] w (aZ w (aL b)):=by
 have H:=af h;clear h;go_enter Tryz.func239,Tryz.ntmps239;go_upto_block 0 with fail;go_wp2;go_loopg [0,3] b.length (λk s0 s3 wr=>∃(a0 ao:OA) (c0 c rl n:Nat) (rem:LB) (rows:List Rv),s0 = .slice a0 rl c0/\s3 = .slice ao n c/\rl=rem.length/\n=rows.length/\lib.Rd w a0 c0 rem/\Pl w wr rows ao c/\rem.length<=k/\rows.map Rv.bs++chunks k rem=chunks b.length b/\rows.length*65535+rem.length=b.length);case atStart=>exact⟨a,none,cap,0,b.length,0,b,[],rfl,rfl,rfl,rfl,H.out,⟨oE _ _ _ _,Fr.refl _ _,by simp[ag],by simp⟩,ax _,rfl,by simp⟩
 case round=>
  obtain⟨a0,ao,c0,c,rl,n,rem,rows,rfl,rfl,kB,hn,eY,hp,hk,cj,FA⟩:=hrel;have hle:=eY.le;rw[<-kB]at hle hk FA;rw[<-hn]at FA;have HP:=aQ eY hp kB hn cj;obtain⟨_,_,uQ,o1,o2,o3⟩:=Pv hp.own;simp only[kJ]at uQ;obtain⟨rfl,_,rfl⟩:=uQ;rw[<-hn]at o1;clear eY hp kB hn cj;by_cases nQ:65535<rl
  ·have d1:decide ((65535:Int)<rl)=true:=by simp;omega
   obtain⟨k,rfl⟩:∃k,gk=k+1:=⟨gk-1,by omega⟩;obtain⟨m,hm⟩:∃m:Nat,m=65535:=⟨_,rfl⟩;have hsl:=λw=>Ur bits.aE 65535 a0 rl c0 65535 rfl (by omega) w
   have qo:=λw=>La bits.aE 65535 a0 rl c0 65535 rfl (by omega) hle w
   obtain⟨rs,mD⟩:∃rs:Rv,rs=⟨a0,c0,rem.take 65535⟩:=⟨_,rfl⟩;have ze:kH rs = .iface 405 (.agg #[.slice a0 65535 c0]):=by rw[mD,kH];simp only[fH];rw[<-HP.o2,vP (by omega)]
   have od:lib.Rd w rs.ao rs.cap rs.bs/\rs.bs.length<=65535:=by rw[mD];exact⟨HP.o0.take 65535,by simp only[fH];omega⟩
   have HR:=aq ze od mD;clear ze od mD hm;go_wp2_with (refine fq wO rfl _ _ rfl (.slice ao n c) n (rows.map kH) (ag ao) rfl (cY _ _ _) (by rw[HP.o3];exact HP.o1.own.alloc _) (some ⟨wr.heap.size,0,none⟩) 1 1 [kH rs] rfl (by omega) (by simp) (by rw[HR.o0];exact oC wr _ _ _) rfl (by simp[kH,Value.oneCell']) (by omega) (by unfold maxLen;omega) ?_;intro a2 c2 w6 A2;have HA:=af A2;clear A2);go_roundg k;case measure=>omega
   case rel=>refine⟨_,a2,_,c2,rl-65535,n+1,rem.drop 65535,rows++[rs],rfl,rfl,by rw[gN,HP.o2],by rw[aG,HP.o3];rfl,HP.o0.drop 65535 (by rw[<-HP.o2];omega),HP.o1.push rs _ HP.o3.symm HR.o1 HA.out,by rw[gN,<-HP.o2];omega,?_,zc9 FA (by omega) (by rw[aG,<-HP.o3,BO]) (by rw[gN,<-HP.o2])⟩;have h1:=HP.l4;rw[chunks,if_pos (by rw[<-HP.o2];exact nQ)]at h1;rw[jd,fU,<-h1,HR.l2];rfl
  ·have d1:decide ((65535:Int)<rl)=false:=by simp;omega
   obtain⟨rs,mD⟩:∃rs:Rv,rs=⟨a0,c0,rem⟩:=⟨_,rfl⟩;have ze:kH rs = .iface 405 (.agg #[.slice a0 rl c0]):=by rw[mD,kH,HP.o2]
   have od:lib.Rd w rs.ao rs.cap rs.bs/\rs.bs.length<=65535:=by rw[mD];exact⟨HP.o0,by rw[<-HP.o2];omega⟩
   have cj:(rows++[rs]).map Rv.bs=chunks b.length b:=by have h1:=HP.l4;rw[qr7 (by rw[<-HP.o2];omega)]at h1;rw[jd,<-h1,mD];rfl
   have HR:=aq ze od cj;clear ze od mD cj;go_wp2_with ((refine fq wO rfl _ _ rfl (.slice ao n c) n (rows.map kH) (ag ao) rfl (cY _ _ _) (by rw[HP.o3];exact HP.o1.own.alloc _) (some ⟨wr.heap.size,0,none⟩) 1 1 [kH rs] rfl (by omega) (by simp) (by rw[HR.o0];exact oC wr _ _ _) rfl (by simp[kH,Value.oneCell']) (by omega) (by unfold maxLen;omega) ?_;intro a2 c2 w6 A2;have Bn:=af (HP.o1.push rs _ HP.o3.symm HR.o1 A2);have o21:=A2.le;have o22:=A2.max;clear A2));have tk:Calls Tryz.prog 242 #[.slice a2 (n+1) c2] w6 (aZ w6 (aL b)):=by have h:=qne a2 c2 (rows++[rs]) w6 (Sf Bn.out.own) (by rw[aG,<-HP.o3];exact o21) o22 (λr hr=>⟨((Bn.out.row r hr).1).fr Bn.out.fr,(Bn.out.row r hr).2⟩) (by rw[aG,BO];omega) (by rw[aG,<-HP.o3,BO];omega);rw[HR.l2,aG,<-HP.o3]at h;exact h
   unfold aZ at tk;refine tk.mono ?_;rintro e w7 ⟨a7,rfl,r7,n7,f7⟩;go_wp2;go_ret;unfold aZ;exact⟨a7,rfl,r7,λx hx=>⟨bP Bn.out.fr.size (n7 x hx).1,(n7 x hx).2⟩,Bn.out.fr.trans f7⟩
end defl
namespace sums
open Go Go.RowKit lib bm
theorem aE:aw Tryz.prog 35 5 (.int .u8 0) 1 1:=aw.of Tryz.underlying35 (by kernel_rfl) rfl (by decide)
theorem qI (bs:LB):∀u∈bs.map bv,u.oneCell'=true:=by intro u hu;obtain⟨b,_,rfl⟩:=mU.1 hu;rfl
def ad:Nat->Nat->List UInt8->Nat×Nat
 | a,b,[]=>(a,b)
 | a,b,c::t=>ad ((a+c.toNat)%65521) ((b+(a+c.toNat)%65521)%65521) t
theorem WX:∀(a b:Nat) (l:LB),a<65521->b<65521->(ad a b l).1<65521/\(ad a b l).2<65521
 | _,_,[],ha,hb=>⟨ha,hb⟩
 | a,b,c::t,_,_=>WX _ _ t (xS _ (by decide)) (xS _ (by decide))
def fJ (l:LB):Nat:=(ad 1 0 l).2*65536+(ad 1 0 l).1
theorem Ko (l:LB):fJ l<4294967296:=by have:=WX 1 0 l (by decide) (by decide);unfold fJ;omega
def Ad (w:World) (g a b:Nat):Prop:=
 ∃C,w.heap[g]?=some (.cells C 207 (0,0))/\C.size=267/\C[0]?=some (.int .i64 3)/\C[265]?=some (.int .u32 a)/\C[266]?=some (.int .u32 b)/\a<65521/\b<65521
theorem qun (w:World):Calls Tryz.prog 113 #[.int .i64 3] w λe w'=>e = .returned (.pointer (some ⟨w.heap.size,0,none⟩))/\Ad w' w.heap.size 1 0/\Fr [] w w':=by go_enter Tryz.func113,Tryz.ntmps113;go_wp2;go_ret;exact⟨rfl,⟨_,aV w _,rfl,rfl,rfl,rfl,by decide,by decide⟩,(Fr.refl [] w).alloc _⟩
theorem qsq (g a0 b0 cap:Nat) (ao:OA) (bs:LB) (w:World) (h:Ad w g a0 b0) (hr:Rd w ao cap bs) (DU:bs≠[]->∀x∈ag ao,x≠g) :
  Calls Tryz.prog 60 #[.pointer (some ⟨g,0,none⟩),.slice ao bs.length cap] w λe w'=>e = .returned (.tuple #[])/\Fr [g] w w'/\Ad w' g (ad a0 b0 bs).1 (ad a0 b0 bs).2:=by
 obtain⟨C,hC,cZ,dB,_⟩:=h;have c0:=cell_of hC 0;rw[dB]at c0;obtain⟨L,hL⟩:=ah bs.length;have hle:=hr.le;have dE:=hr.max;unfold maxLen at dE;rw[<-hL]at hle ⊢;have H:=aA (show Ad w g a0 b0 from ⟨C,hC,cZ,dB,‹_›⟩) hr DU hL;clear hr DU hL hC cZ dB;go_enter Tryz.func60,Tryz.ntmps60;go_upto_block 5 with fail;clear c0;go_wp2;go_loopg [7,93] L (λk s7 s93 wr=>∃i a b:Nat,s93 = .int .i64 (i:Nat)/\i+k=L/\Ad wr g a b/\Fr [g] w wr/\ad a b (bs.drop i)=ad a0 b0 bs);case atStart=>exact⟨0,a0,b0,rfl,by omega,H.o0,Fr.refl _ _,rfl⟩
 case round=>
  obtain⟨i,a,b,rfl,cQ,hA,hf,had⟩:=hrel;by_cases hi:i<L
  ·obtain⟨k,rfl⟩:∃k,gk=k+1:=⟨gk-1,by omega⟩;have tO:i<bs.length:=by rw[<-H.l3];exact hi
   have qZ:bs≠[]:=by intro e;rw[e]at tO;simp at tO
   have od:=C4 H.o1 hf (λhb x hx hm=>H.o2 hb x hx (by simpa using hm));obtain⟨g1,o1,rfl,cc⟩:=od.at tO;have hdr:bs.drop i=bs[i]::bs.drop (i+1):=xg tO;rw[hdr,ad]at had;have zaF:=mW bs[i];generalize bs[i].toNat=c at *;obtain⟨C,hC,cZ,dB,Gy,jR,eh,Jj⟩:=hA;have ca:=cell_of hC 265;rw[Gy]at ca;have za:=aT hC 265;obtain⟨a2,Ju⟩:=ah ((a+c)%65521);obtain⟨b2,mF⟩:=ah ((b+a2)%65521);rw[<-Ju,<-mF]at had;have e1:((a:Int)+(c:Int))%65521=(a2:Int):=by omega
   have e2:((b:Int)+(a2:Int))%65521=(b2:Int):=by omega
   have Vq:a2<65521:=by omega
   have Vp:b2<65521:=by omega
   have HC:=cU hC cZ dB jR hf had;clear hC cZ dB jR hf had Gy Ju mF hdr od tO;go_upto_region 18 with fail;have f2:Fr [g] wr (wr.setCell ⟨g,265,none⟩ (.int .u32 a2)):=(Fr.refl [g] wr).setCell (by simp) _;have Ei:=df (o:=265) HC.o0 (.int .u32 a2);generalize wr.setCell ⟨g,265,none⟩ (.int .u32 a2)=w2 at *;have ca2:=cell_of Ei 265;have JD:=cell_of Ei 266;have zb:=aT Ei 266;rw[oI (by rw[HC.o1];decide)]at ca2;rw[cV (by decide),HC.o3]at JD;have Ev:=ai Ei f2;clear ca za cc Ei f2;refine xY 13 (by kernel_rfl) (by kernel_rfl) ?_;simp only[lh,sW,nY,nE];repeat (go_big_quiet_step (fail))
   refine wpQuiet_nil ?_;go_wp2;go_roundg k;case measure=>omega
   case rel=>
    have f3:Fr [g] w2 w2.drew:=Fr.aB [g] w2;have hC3:=f3.block g (lt_of_block Ev.o0);have NJ:(w2.drew).heap[g]?=_:=Ev.o0;have hC5:=df (o:=266) NJ (.int .u32 b2);refine⟨i+1,a2,b2,by go_num,by omega,⟨_,hC5,by simp[HC.o1],?_,?_,?_,Vq,Vp⟩,((HC.o4.trans Ev.l1).trans f3).setCell (by simp) _,HC.l5⟩
    ·rw[cV (by decide),cV (by decide),HC.o2]
    ·rw[cV (by decide),oI (by rw[HC.o1];decide)]
    ·rw[oI (by rw[Array.size_setIfInBounds,HC.o1];decide)]
  ·obtain rfl:gk=0:=by omega
   obtain rfl:i=L:=by omega
   have hd:bs.drop i=[]:=Ax (by rw[<-H.l3];exact ax _);rw[hd,ad]at had;have HA:=aq hA hf had;clear hA hf had hd;go_wp2;go_end0;exact⟨rfl,HA.o1,by rw[<-HA.l2];exact HA.o0⟩
end sums

end Go.Proofs.YticadfhpolhkeaaGreatDoor