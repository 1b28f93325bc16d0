/-
  Texts of this proof, one behind the other: Counts, Writer, Wb, Stored, RowsArg, Written, Plain, Zlib.
-/
import Derived.Test.YtkmpfgpfbmeihaaGreatDoorU9
import Derived.Lib.SmallJoins
set_option maxHeartbeats 16000000
set_option maxRecDepth 100000
set_option linter.unusedVariables false
set_option linter.unusedSimpArgs false
namespace Go.Proofs.YtkmpfgpfbmeihaaGreatDoor
namespace defl
open Go Go.RowKit lib bm mat huf
theorem qxs {n:Nat} (vT:11<=n) (h:n<258):∃w,1<=w/\w<=5/\4*2^w<=n-3/\n-3<8*2^w:=by
 obtain h|h:n<19\/19<=n:=by omega
 ·exact⟨1,by omega,by omega,by omega,by omega⟩
 obtain h|h:n<35\/35<=n:=by omega
 ·exact⟨2,by omega,by omega,by omega,by omega⟩
 obtain h|h:n<67\/67<=n:=by omega
 ·exact⟨3,by omega,by omega,by omega,by omega⟩
 obtain h|h:n<131\/131<=n:=by omega
 ·exact⟨4,by omega,by omega,by omega,by omega⟩
 exact⟨5,by omega,by omega,by omega,by omega⟩
theorem qyr {n:Nat} (h5:5<=n) (h:n<=32768):∃w,1<=w/\w<=13/\2*2^w<=n-1/\n-1<4*2^w:=by
 have h0:n-1≠0:=by omega
 have h1:2<=Nat.log2 (n-1):=(Nat.le_log2 h0).2 (by omega);have h2:Nat.log2 (n-1)<15:=(Nat.log2_lt h0).2 (by omega);have h3:=(Nat.le_log2 h0 (k:=Nat.log2 (n-1))).1 (aw _);have h4:=(Nat.log2_lt h0 (k:=Nat.log2 (n-1)+1)).1 (by omega);obtain⟨v,hv⟩:∃v,Nat.log2 (n-1)=v+1:=⟨Nat.log2 (n-1)-1,by omega⟩;rw[hv]at h1 h2 h3 h4;rw[pK]at h3 h4;rw[pK]at h4;exact⟨v,by omega,by omega,by omega,by omega⟩
theorem UM {n:Nat} (h3:3<=n) (jI:n<=258):257<=(eU n).1/\(eU n).1<286/\(eU n).2.2<=5/\(eU n).2.1<2^(eU n).2.2:=by
 by_cases vT:n<11
 ·unfold eU;rw[if_pos vT];simp only;omega
 ·by_cases h8:n=258
  ·subst h8;decide
  ·obtain⟨w,h1,h2,h4,h5⟩:=qxs (by omega) (show n<258 by omega);rw[qtx (w:=w) (by omega) h8 h4 h5];have hp:=oZ w;have:(n-3)/2^w<8:=(Hz hp).2 h5;have:4<=(n-3)/2^w:=(Nat.le_div_iff_mul_le hp).2 h4;refine⟨by simp only;omega,by simp only;omega,h2,vZ _ hp⟩
theorem UG {n:Nat} (h1:1<=n) (h:n<=32768):(eI n).1<30/\(eI n).2.2<=13/\(eI n).2.1<2^(eI n).2.2:=by
 by_cases h5:n<5
 ·unfold eI;rw[if_pos h5];simp only;omega
 ·obtain⟨w,k1,k2,k4,k5⟩:=qyr (by omega) h;rw[qub (w:=w) (by omega) k4 k5];have hp:=oZ w;have:(n-1)/2^w<4:=(Hz hp).2 k5;exact⟨by simp only;omega,k2,vZ _ hp⟩
def Di:Tok->Nat
 | .lit c=>c.toNat
 | .mat n _=>(eU n).1
def BZ:Tok->Option Nat
 | .lit _=>none
 | .mat _ d=>some (eI d).1
def nI (t:List Tok) (s:Nat):Nat:=(t.map Di).count s
def nT (t:List Tok) (s:Nat):Nat:=(t.filterMap BZ).count s
theorem Md (t:List Tok) (s:Nat):nI t s<=t.length:=by have:=LX (a:=s) (l:=t.map Di);rw[cN]at this;exact this
theorem qys (t:List Tok) (s:Nat):nT t s<=t.length:=by have:=LX (a:=s) (l:=t.filterMap BZ);exact bS this (List.length_filterMap_le _ _)
theorem qty (t:List Tok) (x:Tok) (s:Nat):nI (t++[x]) s=if s=Di x then nI t s+1 else nI t s:=by
 unfold nI;rw[gB,Hc];by_cases h:s=Di x
 ·subst h;simp
 ·rw[if_neg h];simp[jg h]
theorem zbw (t:List Tok) (c:UInt8) (s:Nat):nT (t++[.lit c]) s=nT t s:=by unfold nT;rw[List.filterMap_append,show List.filterMap BZ [Tok.lit c]=[] from rfl,nF]
theorem zbv (t:List Tok) (n d s:Nat):nT (t++[.mat n d]) s=if s=(eI d).1 then nT t s+1 else nT t s:=by
 unfold nT;rw[List.filterMap_append,Hc];by_cases h:s=(eI d).1
 ·subst h;simp[BZ]
 ·rw[if_neg h];simp[BZ,jg h]
structure Cn (p1 p2 Q1 Q2:Nat) (t:List Tok) (w:World):Prop where
 c1:w.cell? ⟨p1,0,none⟩=some (.slice (some ⟨Q1,0,none⟩) 286 286)
 c2:w.cell? ⟨p2,0,none⟩=some (.slice (some ⟨Q2,0,none⟩) 30 30)
 o1:Ow w Q1 286 (nI t)
 o2:Ow w Q2 30 (nT t)
 n1:p1≠Q1/\p1≠Q2/\p2≠Q1/\p2≠Q2/\Q1≠Q2
theorem qyy (p1 p2 Q1 Q2:Nat) (t:List Tok) (c:UInt8) (w:World) (h:Cn p1 p2 Q1 Q2 t w) (ht:t.length<=1000000) :
  Calls Tryz.prog 157 #[.int .u8 c.toNat,.pointer none,.pointer (some ⟨p1,0,none⟩),.pointer (some ⟨p2,0,none⟩)] w λe w'=>e = .returned (.tuple #[])/\Cn p1 p2 Q1 Q2 (t++[.lit c]) w'/\Fr [Q1,Q2] w w':=by
 obtain⟨s,hs⟩:=ah c.toNat;have cB:s<256:=by rw[hs];exact iB _
 rw[<-hs];have d1:=h.c1;have d3:=h.o1.cell (show s<286 by omega);have z3:=h.o1.frozen s;have hb:=Md t s;obtain⟨F,hF⟩:=ah (nI t s);rw[<-hF]at d3 hb;have bX:=h.o1.set (show s<286 by omega) (F+1);have H:=aF h hs hF bX;clear h hs hF bX;go_enter Tryz.func157,Tryz.ntmps157;go_wp2;refine bodyPost_ret (results_none rfl _ _ _) rfl ?_;obtain⟨h,hs,hF,bX⟩:=H.out;refine⟨rfl,⟨?_,?_,bX.congr λx _=>?_,?_,h.n1⟩,(Fr.refl _ w).setCell (by simp) _⟩
 ·exact ((Fr.refl [Q1] w).setCell (by simp) _).cell h.c1 (by simpa using h.n1.1)
 ·exact ((Fr.refl [Q1] w).setCell (by simp) _).cell h.c2 (by simpa using h.n1.2.2.1)
 ·rw[qty,hF];show (if x=s then _ else _)=if x=c.toNat then _ else _
  rw[hs];by_cases e:x=c.toNat
  ·rw[if_pos e,if_pos e,e]
  ·rw[if_neg e,if_neg e]
 ·refine (h.o2.fr ((Fr.refl [Q1] w).setCell (by simp) _) (by simpa using (jg h.n1.2.2.2.2))).congr λx _=>(zbw t c x).symm
theorem qyx (p1 p2 Q1 Q2 g o:Nat) (t:List Tok) (n d:Nat) (w:World) (h:Cn p1 p2 Q1 Q2 t w) (ht:t.length<=1000000) (h3:3<=n) (jI:n<=258) (h1:1<=d) (hd:d<=32768)
  (hg:g≠Q1/\g≠Q2) (e1:w.cell? ⟨g,o+1,none⟩=some (.int .i64 n)) (e2:w.cell? ⟨g,o+2,none⟩=some (.int .i64 d)) :
  Calls Tryz.prog 157 #[.int .u8 0,.pointer (some ⟨g,o,none⟩),.pointer (some ⟨p1,0,none⟩),.pointer (some ⟨p2,0,none⟩)] w λe w'=>e = .returned (.tuple #[])/\Cn p1 p2 Q1 Q2 (t++[.mat n d]) w'/\Fr [Q1,Q2] w w':=by
 have hl:=RD n w h3 jI;have aY:=UM h3 jI;have Ex:=UG h1 hd;unfold Triple at hl;obtain⟨s,hs⟩:=ah ((eU n).1);obtain⟨s2,cB⟩:=ah ((eI d).1);rw[<-hs]at hl aY;rw[<-cB]at Ex;have hsl:s<286:=aY.2.1;have y9:s2<30:=Ex.1;obtain⟨F,hF⟩:=ah (nI t s);obtain⟨G,hG⟩:=ah (nT t s2);have vk:F<=1000000:=by rw[hF];exact bS (Md _ _) ht
 have hGb:G<=1000000:=by rw[hG];exact bS (qys _ _) ht
 have H:=pB h hs cB hF hG hl hg h1 hd e2;clear h hs cB hF hG hl aY Ex ht h3 jI h1 hd e2 hg;go_enter Tryz.func157,Tryz.ntmps157;go_upto_region 3 with (go_at_call 158;refine H.out.2.2.2.2.2.1.mono ?_;rintro e w1 ⟨rfl,f1⟩;have H1:=af f1;clear f1);clear e1;have h1:=H.out.1;have d1:=H1.out.cell h1.c1 (by simp);have o1:=h1.o1.fr H1.out (by simp);have d3:=o1.cell hsl;rw[<-H.out.2.2.2.1]at d3;have z3:=o1.frozen s;have bX:=o1.set hsl (F+1);obtain⟨w2,bq⟩:∃w2,w2=w1.setCell ⟨Q1,s,none⟩ (.int .i64 ((F+1:Nat):Nat)):=⟨_,rfl⟩;rw[<-bq]at bX;have f2:Fr [Q1] w w2:=by rw[bq];exact (H1.out.mono (by simp)).setCell (by simp) _
 have H2:=au bX f2 bq.symm;clear h1 o1 bX bq f2;go_upto_region 4 with fail;clear d1 d3 z3;have hw:w1.setCell ⟨Q1,s,none⟩ (.int .i64 ((F:Int)+1))=w2:=by rw[<-H2.l2];rfl
 rw[hw];clear hw;have e2:=H2.o1.cell H.out.2.2.2.2.2.2.2.2.2 (by simpa using H.out.2.2.2.2.2.2.1.1);have Bu:=RU d w2 H.out.2.2.2.2.2.2.2.1 H.out.2.2.2.2.2.2.2.2.1;unfold Triple at Bu;rw[<-H.out.2.2.1]at Bu;have HD:=af Bu;clear Bu;go_upto_region 5 with (go_at_call 159;refine HD.out.mono ?_;rintro e w3 ⟨rfl,f3⟩;have H3:=af f3;clear f3);clear e2;have h1:=H.out.1;have f23:=H2.o1.trans (H3.out.mono (by simp));have d2:=f23.cell h1.c2 (by simpa using h1.n1.2.2.1);have o2:=h1.o2.fr f23 (by simpa using (jg h1.n1.2.2.2.2));have d4:=o2.cell y9;rw[<-H.out.2.2.2.2.1]at d4;have z4:=o2.frozen s2;have bX:=o2.set y9 (G+1);have H4:=ak bX f23;clear h1 f23 o2 bX;go_wp2;(try simp only[Exit.inBlock,Exit.then]);refine bodyPost_end (results_none rfl _ _ _) rfl ?_;obtain⟨h,hs,cB,hF,hG,_⟩:=H.out;obtain⟨TH,f23⟩:=H4.out;have TI:=H2.o0;refine⟨rfl,⟨?_,?_,?_,?_,h.n1⟩,(f23.mono (by simp)).setCell (by simp) _⟩
 ·exact ((f23.mono (T:=[Q1,Q2]) (by simp)).setCell (by simp) _).cell h.c1 (by simpa using⟨h.n1.1,h.n1.2.1⟩)
 ·exact ((f23.mono (T:=[Q1,Q2]) (by simp)).setCell (by simp) _).cell h.c2 (by simpa using⟨h.n1.2.2.1,h.n1.2.2.2.1⟩)
 ·refine ((TI.fr H3.out (by simp)).fr ((Fr.refl [Q2] w3).setCell (by simp) _) (by simpa using h.n1.2.2.2.2)).congr λx _=>?_
  rw[qty,hF];show (if x=s then _ else _)=if x=(eU n).1 then _ else _
  rw[<-hs];by_cases e:x=s
  ·rw[if_pos e,if_pos e,e]
  ·rw[if_neg e,if_neg e]
 ·refine TH.congr λx _=>?_
  rw[zbv,hG];show (if x=s2 then _ else _)=if x=(eI d).1 then _ else _
  rw[<-cB];by_cases e:x=s2
  ·rw[if_pos e,if_pos e,e]
  ·rw[if_neg e,if_neg e]
theorem qnp {fn:Func} {p u:Tmp} {t1 t2:TypeId} (h:fn.results=#[.cell p t1,.cell u t2]) (tmps:Array Value) (P:Program) (w:World) (g1 g2:Nat) (v1 v2:Value)
  (e1:tmps.getD p undef = .pointer (some ⟨g1,0,none⟩)) (e2:tmps.getD u undef = .pointer (some ⟨g2,0,none⟩)) (l1:(loadVar t1 ⟨g1,0,none⟩).run P w = .ok v1 w) (l2:(loadVar t2 ⟨g2,0,none⟩).run P w = .ok v2 w) :
  (results fn tmps).run P w = .ok (.tuple #[v1,v2]) w:=by
 have PX:tmps[p]?.getD undef = .pointer (some ⟨g1,0,none⟩):=by simpa using e1
 have e2':tmps[u]?.getD undef = .pointer (some ⟨g2,0,none⟩):=by simpa using e2
 simp only[results,h];simp[Dm,PX,e2',asAddr,l1,l2,Result.andThen]
theorem qg1 {w:World} {g:Nat} {v:Value} (h:w.cell? ⟨g,0,none⟩=some v):(loadVar 28 ⟨g,0,none⟩).run Tryz.prog w = .ok v w:=by have h1:=Tryz.isAgg28;simp[loadVar,h1,h]
theorem Vb (n:Nat) (h:n<=1000000):∃Z:Array Value,Z.size=n/\(∀s,s<n->Z[s]?=some (.int .i64 0))/\∀w:World,(Instr.makeSlice 28 (.int .i64 (n:Nat)) (.int .i64 (n:Nat))).run Tryz.prog w = .ok (.slice (some ⟨w.heap.size,0,none⟩) n n) (w.alloc (.cells Z 3)):=by
 obtain⟨i,hi,hz,hs,hb⟩:=info_parts Mw;refine⟨madeCells (Value.int .i64 0).cells n,size_madeCells _ _,λs fZ=>?_,λw=>?_⟩
 ·rw[<-qW,show (Value.int .i64 0).cells=#[.int .i64 0] from rfl,toList_madeCells_one,List.getElem?_replicate,if_pos fZ]
 ·have:=run_make (P:=Tryz.prog) w 28 3 i (.int .i64 0) Tryz.underlying28 hi hz .i64 .i64 (n:Nat) (n:Nat) (by omega) (Int.le_refl _) (by rw[hb];omega) (by omega);rw[hs,Cy,qV]at this;exact this
theorem qs7 {w1:World} {p1 p2:Nat} {x1 x2 v1 v2:Value} {T1 T2:TypeId} {Za Zb:Array Value} {T:TypeId} (b1:w1.heap[p1]?=some (.cells #[x1] T1 (0,0))) (b2:w1.heap[p2]?=some (.cells #[x2] T2 (0,0))) (hp:p1≠p2) :
  ∃W,W=((((w1.setCell ⟨p1,0,none⟩ v1).setCell ⟨p2,0,none⟩ v2).alloc (.cells Za T)).alloc (.cells Zb T)).drew/\W.heap[p1]?=some (.cells #[v1] T1 (0,0))/\W.heap[p2]?=some (.cells #[v2] T2 (0,0))/\
   W.heap[w1.heap.size]?=some (.cells Za T (0,0))/\W.heap[w1.heap.size+1]?=some (.cells Zb T (0,0))/\Fr [p1,p2] w1 W:=by
 refine⟨_,rfl,?_,?_,?_,?_,?_⟩
 ·have k1:=aX (o:=0) b1 v1;have k2:=pJ (.cells Zb T) (pJ (.cells Za T) ((RY (o:=0) hp v2).trans k1));exact k2
 ·have k1:=aX (o:=0) ((RY (o:=0) (jg hp) v1).trans b2) v2;have k2:=pJ (.cells Zb T) (pJ (.cells Za T) k1);exact k2
 ·have k1:=bx ((w1.setCell ⟨p1,0,none⟩ v1).setCell ⟨p2,0,none⟩ v2) (.cells Za T);rw[World.size_setCell,World.size_setCell]at k1;exact pJ (.cells Zb T) k1
 ·have k1:=bx (((w1.setCell ⟨p1,0,none⟩ v1).setCell ⟨p2,0,none⟩ v2).alloc (.cells Za T)) (.cells Zb T);rw[eZ,World.size_setCell,World.size_setCell]at k1;exact k1
 ·exact (((((Fr.refl [p1,p2] w1).setCell (by simp) _).setCell (by simp) _).alloc _).alloc _).drew
def yY (b:List UInt8) (t:List Tok) (s:Nat):Nat:=nI t s+(if s=256 then 1 else 0)+(if b.length=0/\s=0 then 1 else 0)
def qO (b:List UInt8) (t:List Tok) (w:World) (e:Ending) (w':World):Prop:=
 ∃Q1 Q2,e = .returned (.tuple #[.slice (some ⟨Q1,0,none⟩) 286 286,.slice (some ⟨Q2,0,none⟩) 30 30])/\Ow w' Q1 286 (yY b t)/\Ow w' Q2 30 (nT t)/\Fr [] w w'/\w.heap.size<=Q1/\w.heap.size<=Q2
theorem qvh (b:List UInt8) (a al:Option Addr) (cap cl r:Nat) (l:List Mt) (mO iN:Value) (told:Bool) (w:World) (FZ:mO.oneCell'=true) (Bt:iN.oneCell'=true)
  (hb:Rd w a cap b) (hl:Cs w al (bM l)) (sC:l.length<=cl) (rk:al=none->cl=0) (oP:cl<=maxLen) (dV:dB b r 0 l) (hr:r<=32768) (ie:b.length<=1000000) (rJ:∀x∈ae a,x<w.heap.size) (oz:∀x∈ae al,x<w.heap.size) :
  Calls Tryz.prog 129 #[xq a al b.length cap l.length cl mO iN told] w (qO b (dR b 0 l) w):=by
 obtain⟨Z1,iZ,hZ1,mk1⟩:=Vb 286 (by decide);obtain⟨Z2,lS,SR,M7⟩:=Vb 30 (by decide);have R6:∀w:World,(Instr.makeSlice 28 (.int .i64 286) (.int .i64 286)).run Tryz.prog w = .ok (.slice (some ⟨w.heap.size,0,none⟩) 286 286) (w.alloc (.cells Z1 3)):=mk1;have R5:∀w:World,(Instr.makeSlice 28 (.int .i64 30) (.int .i64 30)).run Tryz.prog w = .ok (.slice (some ⟨w.heap.size,0,none⟩) 30 30) (w.alloc (.cells Z2 3)):=M7;clear mk1 M7;obtain⟨B,hB⟩:=ah w.heap.size;obtain⟨w1,cD⟩:=ah (((w.alloc (.cells #[.slice a b.length cap,.slice al l.length cl,mO,iN,.bool told] 197 (0,0))).alloc (.cells #[.slice none 0 0] 28 (0,0))).alloc (.cells #[.slice none 0 0] 28 (0,0)));have f1:Fr [] w w1:=by rw[cD];exact (((Fr.refl [] w).alloc _).alloc _).alloc _
 have uO:w1.heap.size=B+3:=by rw[cD,eZ,eZ,eZ,<-hB]
 have iz:w1.heap[B]?=some (.cells #[.slice a b.length cap,.slice al l.length cl,mO,iN,.bool told] 197 (0,0)):=by rw[cD,hB];exact pJ _ (pJ _ (bx w _))
 have xV:w1.heap[B+1]?=some (.cells #[.slice none 0 0] 28 (0,0)):=by rw[cD,hB];refine pJ _ ?_;have:=bx (w.alloc (.cells #[.slice a b.length cap,.slice al l.length cl,mO,iN,.bool told] 197 (0,0))) (.cells #[.slice none 0 0] 28 (0,0));rwa [eZ]at this
 have mD:w1.heap[B+2]?=some (.cells #[.slice none 0 0] 28 (0,0)):=by rw[cD,hB];have:=bx ((w.alloc (.cells #[.slice a b.length cap,.slice al l.length cl,mO,iN,.bool told] 197 (0,0))).alloc (.cells #[.slice none 0 0] 28 (0,0))) (.cells #[.slice none 0 0] 28 (0,0));rwa [eZ,eZ]at this
 have H:=pB hb hl sC rk oP dV hr ie rJ oz;have HW:=cz cD.symm f1 uO iz xV mD hB;have HZ:=aF iZ hZ1 lS SR;clear hb hl sC rk oP dV hr ie rJ oz cD f1 uO iz xV mD iZ hZ1 lS SR hB;unfold xq;go_enter Tryz.func129,Tryz.ntmps129;go_upto_region 1 with fail;rw[HW.o0,<-HW.l6,show B+1+1=B+2 from rfl];obtain⟨p1,xV⟩:=ah (B+1);obtain⟨p2,mD⟩:=ah (B+2);obtain⟨S1,Yv⟩:=ah w1.heap.size;rw[<-xV,<-mD];have b1:w1.heap[p1]?=some (.cells #[.slice none 0 0] 28 (0,0)):=by rw[xV];exact HW.o4
 have b2:w1.heap[p2]?=some (.cells #[.slice none 0 0] 28 (0,0)):=by rw[mD];exact HW.o5
 have uO:=HW.o2;have zP:p1≠p2:=by omega
 have HP:=bJ xV mD Yv uO b1 b2;go_cut [4,5] from 4 to 6 (λs4 s5 wz=>∃Q1 Q2,s4 = .slice (some ⟨Q1,0,none⟩) 286 286/\s5 = .slice (some ⟨Q2,0,none⟩) 30 30/\wz.heap[p1]?=some (.cells #[.slice (some ⟨Q1,0,none⟩) 286 286] 28 (0,0))/\wz.heap[p2]?=some (.cells #[.slice (some ⟨Q2,0,none⟩) 30 30] 28 (0,0))/\
  Ow wz Q1 286 (λ_=>0)/\Ow wz Q2 30 (λ_=>0)/\Q1≠Q2/\w1.heap.size<=Q1/\w1.heap.size<=Q2/\Fr [p1,p2] w1 wz)
 case first=>
  have c1:=cell_of b1 0;have c2:=cell_of b2 0;have z1:=aO b1 0;have z2:=aO b2 0;simp only[bw,aV]at c1 c2;have ku:=lt_of_block b1;have ph:=lt_of_block b2;have vQ:¬p1=w1.heap.size:=by omega
  have iJ:¬p2=w1.heap.size:=by omega
  have wP:¬p1=w1.heap.size+1:=by omega
  have SB:¬p2=w1.heap.size+1:=by omega
  clear b1 b2 xV mD Yv uO;go_region;all_goals go_wp2
  all_goals go_meet
  ·obtain⟨W,hW,k1,k2,k3,k4,k5⟩:=qs7 (v1:=.slice (some ⟨w1.heap.size,0,none⟩) 286 286) (v2:=.slice (some ⟨w1.heap.size+1,0,none⟩) 30 30) (Za:=Z1) (Zb:=Z2) (T:=3) HP.out.2.2.2.2.1 HP.out.2.2.2.2.2 zP;rw[<-hW];exact⟨_,_,rfl,rfl,k1,k2,⟨Z1,k3,HZ.o0,HZ.o1⟩,⟨Z2,k4,HZ.o2,HZ.l3⟩,by omega,by omega,by omega,k5⟩
  ·obtain⟨W,hW,k1,k2,k3,k4,k5⟩:=qs7 (v1:=.slice (some ⟨w1.heap.size+1,0,none⟩) 286 286) (v2:=.slice (some ⟨w1.heap.size,0,none⟩) 30 30) (Za:=Z2) (Zb:=Z1) (T:=3) HP.out.2.2.2.2.1 HP.out.2.2.2.2.2 zP;rw[<-hW];exact⟨_,_,rfl,rfl,k1,k2,⟨Z1,k4,HZ.o0,HZ.o1⟩,⟨Z2,k3,HZ.o2,HZ.l3⟩,by omega,by omega,by omega,k5⟩
 case rest=>
 obtain⟨Q1,Q2,rfl,rfl,R8,R7,o1,o2,k6,k7,k8,k9⟩:=hcut;have k1:=cell_of R8 0;have k2:=cell_of R7 0;simp only[bw,aV]at k1 k2;have kL:=k9.ae HW.o3 (by have:=HP.out.1;have:=HP.out.2.1;simp;omega);have f0:=HW.o1;obtain⟨wo,ou⟩:∃wo:World,wo=wc:=⟨_,rfl⟩;rw[<-ou]at k1 k2 R8 R7 o1 o2 k9 kL ⊢;have f9:Fr [] w wo:=f0.step k9 λx hx=>.inr (by have:=HW.l6;have:=HP.out.1;have:=HP.out.2.1;simp at hx;omega)
 obtain⟨hb,hl,sC,rk,oP,dV,hr,ie,rJ,oz⟩:=H.out;have cF:=HW.o2;have hBz:=HW.l6;have Xi:=HP.out.1;have Xh:=HP.out.2.1;have hQz:Q1<wo.heap.size/\Q2<wo.heap.size:=by obtain⟨A,hA,_⟩:=o1;obtain⟨A2,gQ,_⟩:=o2;exact⟨lt_of_block hA,lt_of_block gQ⟩
 have Ew:=qt9 157 #[.pointer (some ⟨p1,0,none⟩),.pointer (some ⟨p2,0,none⟩)] (λ_ _=>by kernel_rfl)
  (λt F w'=>F=[Q1,Q2]/\Cn p1 p2 Q1 Q2 t w') [Q1,Q2] b a al cap cl r l mO iN told wo FZ Bt
  (hb.fr f9) (hl.fr f9 (by simp)) sC rk oP dV hr ie
  (λx hx=>by
   have e:x=Q1\/x=Q2:=by simpa using hx
   refine⟨by omega,λh=>?_,λh=>?_⟩
   ·have:=rJ x h;omega
   ·have:=oz x h;omega)
  (λw' f=>⟨rfl,f.cell k1 (by simp),f.cell k2 (by simp),(o1.fr f (by simp)).congr λs _=>by simp[nI],(o2.fr f (by simp)).congr λs _=>by simp[nT],by omega,by omega,by omega,by omega,k6⟩)
  (λt F c w' ht ⟨hF,hc⟩=>by
   refine (qyy p1 p2 Q1 Q2 t c w' hc (by omega)).mono ?_
   rintro e w2 ⟨rfl,h2,f2⟩
   exact⟨rfl,by rw[hF];exact f2,[Q1,Q2],⟨rfl,h2⟩,λy hy=>.inl (by rw[hF];exact hy)⟩)
  (λt F n d g o w' ht ⟨hF,hc⟩ h3 jI h1 hd hg e1 e2=>by
   refine (qyx p1 p2 Q1 Q2 g o t n d w' hc (by omega) h3 jI h1 hd (by rw[hF]at hg;simpa using hg) e1 e2).mono ?_
   rintro e w2 ⟨rfl,h2,f2⟩
   exact⟨rfl,by rw[hF];exact f2,[Q1,Q2],⟨rfl,h2⟩,λy hy=>.inl (by rw[hF];exact hy)⟩)
 unfold xq at Ew;have e0:=cell_of kL 0;have e1:=cell_of kL 1;have e2:=cell_of kL 2;have e3:=cell_of kL 3;have e4:=cell_of kL 4;simp only[bw,aV,bN]at e0 e1 e2 e3 e4;obtain⟨BL,j1⟩:=ah b.length;obtain⟨LL,oE⟩:=ah l.length;have HE:=aP Ew f9 kL j1 oE;have hpQ:p1≠Q1/\p1≠Q2:=by omega
 have PC:B≠Q1/\B≠Q2:=by omega
 have HN:=aF hpQ PC (show w.heap.size<=Q1 by omega) (show w.heap.size<=Q2 by omega);rw[<-j1]at e0 ⊢;rw[<-oE]at e1 ⊢;have JZ:Hid _:=af Ew;rw[<-j1,<-oE]at JZ;have Yh:BL<=1000000:=by omega
 have HKB:=ak R8 R7;have HT:=af (show (dR b 0 l).length<=1000000 from bS (Mr b 0 l) (by omega));clear R8 R7 Ew j1 oE hb hl sC rk oP dV hr ie rJ oz k1 k2 o1 o2 k6 k7 k8 k9 f9 kL f0 hpQ PC hQz cF hBz Xi Xh xV mD Yv uO b1 b2 zP R6 R5 ou;go_upto_region 3 with (go_at_call 156;refine JZ.out.mono ?_;rintro e w3 ⟨rfl,f3,F,⟨hF,hc⟩,qD⟩;have H3:=ak f3 hc;clear f3 hF hc qD);clear e0 e1 e2 e3 e4;have hc:=H3.l1;have d1:=hc.c1;have d3:=hc.o1.cell (show 256<286 by decide);have z3:=hc.o1.frozen 256;obtain⟨F,hF⟩:=ah (nI (dR b 0 l) 256);have vk:F<=1000000:=by rw[hF];exact bS (Md _ _) HT.out
 rw[<-hF]at d3;have bX:=hc.o1.set (show 256<286 by decide) (F+1);have H4:=ak bX hF;clear bX hF hc;go_upto_region 4 with fail;clear d1 d3 z3;obtain⟨w4,ft⟩:∃w4,w4=w3.setCell ⟨Q1,256,none⟩ (.int .i64 ((F:Int)+1)):=⟨_,rfl⟩;rw[<-ft];have f34:Fr [Q1] w3 w4:=by rw[ft];exact (Fr.refl [Q1] w3).setCell (by simp) _
 have YV:Fr [Q1,Q2] wo w4:=H3.o0.trans (f34.mono (by simp));have c4:Cn p1 p2 Q1 Q2 (dR b 0 l) w3:=H3.l1;have bX:=H4.o0;rw[show (Value.int .i64 ((F+1:Nat):Int)) = .int .i64 ((F:Int)+1) from rfl,<-ft]at bX;have o4:Ow w4 Q1 286 (λs=>nI (dR b 0 l) s+(if s=256 then 1 else 0)):=bX.congr λs _=>by
  by_cases e:s=256
  ·subst e;simp[H4.l1]
  ·simp[e]
 have e0:=cell_of (YV.ae HE.o2 (by simpa using HN.o1)) 0;simp only[bw,aV]at e0;rw[<-HE.o3]at e0;have H5:=aP YV o4 (c4.o2.fr f34 (by simpa using (jg c4.n1.2.2.2.2))) (f34.cell c4.c1 (by simpa using c4.n1.1)) (f34.cell c4.c2 (by simpa using c4.n1.2.2.1));clear f34 YV c4 bX o4 ft;go_upto_if 17 with fail;go_cut [] from 17 to 23 (λwz=>Ow wz Q1 286 (yY b (dR b 0 l))/\Fr [Q1] w4 wz)
 case first=>
  by_cases h0:BL=0
  ·have q0:((BL:Int)==0)=true:=by simp[h0]
   have d1:=H5.o3;have d3:=H5.o1.cell (show 0<286 by decide);have z3:=H5.o1.frozen 0;obtain⟨G,hG⟩:=ah (nI (dR b 0 l) 0+(if 0=256 then 1 else 0));have hGb:G<=1000000:=by rw[hG];have:=Md (dR b 0 l) 0;have:=HT.out;simp;omega
   rw[<-hG]at d3;have bX:=H5.o1.set (show 0<286 by decide) (G+1);have H6:=ak bX hG;clear bX hG;go_wp2;go_meet;refine⟨?_,(Fr.refl [Q1] w4).setCell (by simp) _⟩;have bX:=H6.o0;rw[show (Value.int .i64 ((G+1:Nat):Int)) = .int .i64 ((G:Int)+1) from rfl]at bX;refine bX.congr λs _=>?_
   unfold yY;rw[<-HE.o3];by_cases e:s=0
   ·subst e;simp[H6.l1,h0]
   ·simp[e]
  ·have q0:((BL:Int)==0)=false:=by simp only[beq_eq_false_iff_ne];omega
   go_wp2;go_meet;refine⟨H5.o1.congr λs _=>?_,.refl _ _⟩;unfold yY;rw[<-HE.o3];simp[h0]
 case rest=>
 obtain⟨o5,f5⟩:=hcut;obtain⟨w5,mR⟩:∃w5:World,w5=wc:=⟨_,rfl⟩;rw[<-mR]at o5 f5 ⊢;have hn:=H3.l1.n1;have c1:=f5.cell H5.o3 (by simpa using hn.1);have c2:=f5.cell H5.l4 (by simpa using hn.2.2.1);have Ly:Fr [Q1,Q2] wo w5:=H5.o0.trans (f5.mono (by simp));have y1:=Ly.ae HKB.o0 (by simpa using⟨hn.1,hn.2.1⟩);have y2:=Ly.ae HKB.l1 (by simpa using⟨hn.2.2.1,hn.2.2.2.1⟩);have z1:=aO y1 0;have z2:=aO y2 0;have NW:p1≠p2:=by have:=HP.out.1;have:=HP.out.2.1;omega
 have HF:=aP o5 f5 y1 y2 Ly;clear o5 f5 hn mR y1 y2 Ly;go_upto_region 6 with fail;go_region;all_goals go_wp2
 obtain⟨o5,f5,y1,y2,Ly⟩:=HF.out;have hn:=H3.l1.n1;obtain⟨W,hW⟩:=ah (((w5.setCell ⟨p1,0,none⟩ (.slice (some ⟨Q1,0,none⟩) 286 286)).setCell ⟨p2,0,none⟩ (.slice (some ⟨Q2,0,none⟩) 30 30)).drew);have fW:Fr [p1,p2] w5 W:=by rw[hW];exact (((Fr.refl [p1,p2] w5).setCell (by simp) _).setCell (by simp) _).drew
 have k1:W.cell? ⟨p1,0,none⟩=some (.slice (some ⟨Q1,0,none⟩) 286 286):=by rw[hW];exact (cell_of (w:=World.drew _) ((RY (o:=0) NW _).trans (aX (o:=0) y1 _)) 0).trans (by simp)
 have k2:W.cell? ⟨p2,0,none⟩=some (.slice (some ⟨Q2,0,none⟩) 30 30):=by rw[hW];exact (cell_of (w:=World.drew _) (aX (o:=0) ((RY (o:=0) (jg NW) _).trans y2) _) 0).trans (by simp)
 rw[<-hW];refine bodyPost_ret (qnp (g1:=p1) (g2:=p2) (v1:=.slice (some ⟨Q1,0,none⟩) 286 286) (v2:=.slice (some ⟨Q2,0,none⟩) 30 30) rfl _ _ _ rfl rfl ?_ ?_) rfl ?_
 ·exact qg1 k1
 ·exact qg1 k2
 ·refine⟨Q1,Q2,rfl,o5.fr fW (by simpa using⟨jg hn.1,jg hn.2.2.1⟩),?_,?_,HN.o2,HN.l3⟩
  ·exact (H5.o2.fr f5 (by simpa using jg hn.2.2.2.2)).fr fW (by simpa using⟨jg hn.2.1,jg hn.2.2.2.1⟩)
  ·refine ((HE.o1.step Ly λx hx=>.inr ?_).step fW λx hx=>.inr ?_)
   ·have e:x=Q1\/x=Q2:=by simpa using hx
    rcases e with rfl|rfl
    ·exact HN.o2
    ·exact HN.l3
   ·have e:x=p1\/x=p2:=by simpa using hx
    have:=HP.out.1;have:=HP.out.2.1;have:=HW.l6;omega
end defl
namespace bits
open Go Go.RowKit lib bm
def qG (p:Nat) (F:List Nat) (w:World) (M L:Nat) (e:Ending) (w':World):Prop:=
 e = .returned (.tuple #[])/\Fr F w w'/\∃F',Wr w' p F' M L/\∀y∈F',y∈F\/w.heap.size<=y
theorem Ks (p:Nat) (F:List Nat) (M L:Nat) (x:Nat) (n:Int) (w:World) (hW:Wr w p F M L) (hx:x<4294967296) (hL:L<=562949953421312) :
  Calls Tryz.prog 247 #[.pointer (some ⟨p,0,none⟩),.int .u32 x,.int .i64 n] w (qG p F w (M+2^L*(x%2^(min n.toNat 32))) (L+min n.toNat 32)):=
 (zew p F M L x n w hW hx hL).mono λ_ _ h=>h
theorem qwy (p:Nat) (F:List Nat) (M L:Nat) (x n:Int) (w:World) (hW:Wr w p F M L) (gM:0<=x) (hx:x<4294967296) (hL:L<=562949953421312) :
  Calls Tryz.prog 247 #[.pointer (some ⟨p,0,none⟩),.int .u32 x,.int .i64 n] w (qG p F w (M+2^L*(x.toNat%2^(min n.toNat 32))) (L+min n.toNat 32)):=by
 obtain⟨x,rfl⟩:=FF gM;exact Ks p F M L x n w hW (by omega) hL
theorem zfy {w w':World} {p:Nat} {F S:List Nat} {M L:Nat} (h:Wr w p F M L) (hf:Fr S w w') (hn:∀x∈F,x∉S):Wr w' p F M L:=by obtain⟨v,⟨hr,aA,bT,hM⟩,rfl⟩:=h;exact⟨v,⟨hf.ae hr (hn p (by simp)),dr aA hf (λk hk=>hn k (by simp[hk])),bT,hM⟩,rfl⟩
theorem zfx {w:World} {p:Nat} {F:List Nat} {M L:Nat} (h:Wr w p F M L):∀x∈F,x<w.heap.size:=by
 obtain⟨v,⟨hr,aA,bT,hM⟩,rfl⟩:=h;intro x hx;rcases gw.1 hx with rfl|hx
 ·exact lt_of_block hr
 ·exact qR aA (by simpa using hx)
theorem zb0 (p:Nat) (F:List Nat) (M L:Nat) (x:Nat) (n:Int) (w:World) (hW:Wr w p F M L) (hx:x<4294967296) (hL:L<=562949953421200) :
  Calls Tryz.prog 246 #[.pointer (some ⟨p,0,none⟩),.int .u32 x,.int .i64 n] w (qG p F w (M+2^L*jP x (min n.toNat 32) (min n.toNat 32)) (L+min n.toNat 32)):=by
 obtain⟨m,hm,Bi⟩:∃m:Nat,m=min n.toNat 32/\m<=32:=⟨_,rfl,by omega⟩;have Hm:=af hm;rw[<-hm];clear hm;go_enter Tryz.func246,Tryz.ntmps246;go_upto_region 0 with fail;go_cut [6] (λs6 wc=>s6 = .int .i64 ((m:Int)-1)/\w=wc);case first=>go_wp2;all_goals (go_meet;exact⟨int_eq (by have:=Hm.out;omega),rfl⟩)
 case rest=>
 obtain⟨rfl,rfl⟩:=hcut;have HW:=af hW;clear hW;go_wp2;go_loopg [6] m (λk s6 wr=>∃j F',j+k=m/\s6 = .int .i64 ((k:Int)-1)/\Wr wr p F' (M+2^L*jP x m j) (L+j)/\Fr F w wr/\∀y∈F',y∈F\/w.heap.size<=y);case atStart=>exact⟨0,F,by omega,rfl,by simpa[jP] using HW.out,Fr.refl _ _,λy hy=>.inl hy⟩
 case round=>
  obtain⟨j,F',eG,rfl,cD,dU,hF⟩:=hrel;by_cases hk:gk=0
  ·subst hk;obtain rfl:j=m:=by omega
   go_wp2;go_end0;exact⟨rfl,dU,F',cD,hF⟩
  ·obtain⟨k,rfl⟩:∃k,gk=k+1:=⟨gk-1,by omega⟩;have zR:(0:Int)<=(((k+1:Nat):Int)-1):=by omega
   have hd:x/2^k<4294967296:=Az (Nat.div_le_self _ _) hx;have oC:((x:Int)/2^k)=((x/2^k:Nat):Int):=by rw[yJ,<-G6]
   have dM:(0:Int)<=(x:Int)/2^k:=by rw[oC];exact Int.natCast_nonneg _
   have hd3:(x:Int)/2^k<4294967296:=by rw[oC];omega
   have Hd1:=af oC;clear oC;have ym:L+j<=562949953421312:=by omega
   go_wp2_with (go_at_call 247;refine (qwy p F' _ (L+j) _ _ _ cD dM hd3 ym).mono ?_;rintro e w' ⟨rfl,rR,F1,bq,BN⟩);go_roundg k;case measure=>omega
   case rel=>
    have e1:j=m-1-k:=by omega
    have jb:m-1-j=k:=by omega
    refine⟨j+1,F1,by omega,int_eq (by omega),?_,dU.step rR hF,λy hy=>?_⟩
    ·have e3:((x:Int)/2^k).toNat=x/2^k:=by rw[Hd1.out,Cy]
     have gN:Wr w' p F1 (M+2^L*jP x m j+2^(L+j)*(x/2^k%2)) (L+j+1):=by simpa[e3] using bq
     have e2:=qy1 M L x m j;rw[jb]at e2;rw[<-e2];exact gN
    ·rcases BN y hy with h|h
     ·exact hF y h
     ·right;have:=dU.size;omega
theorem quk (p:Nat) (F:List Nat) (M L:Nat) (w:World) (hW:Wr w p F M L) (hL:L<=562949953421200) :
  Calls Tryz.prog 252 #[.pointer (some ⟨p,0,none⟩)] w (qG p F w M ((L+7)/8*8)):=by
 have HW:=af hW;obtain⟨v,⟨hr,aA,bT,hM⟩,rfl⟩:=hW;have c2:=cell_of hr 2;simp only[bw,aV,bN]at c2;clear hr aA;by_cases h0:L%8=0
 ·have h1:decide ((0:Int)<((L%8:Nat):Int))=false:=by simp;omega
  go_enter Tryz.func252,Tryz.ntmps252;go_wp2;go_end0;refine⟨rfl,Fr.refl _ _,_,?_,λy hy=>.inl hy⟩;rw[show (L+7)/8*8=L from by omega];exact HW.out
 ·have h1:decide ((0:Int)<((L%8:Nat):Int))=true:=by simp;omega
  have ym:L<=562949953421312:=by omega
  go_enter Tryz.func252,Tryz.ntmps252;go_wp2_with (go_at_call 247;refine (qwy p _ M L _ _ _ HW.out (by omega) (by omega) ym).mono ?_;rintro e w' ⟨rfl,rR,F1,bq,BN⟩);go_end0;refine⟨rfl,rR,F1,?_,BN⟩;have e1:(8-(L:Int)%8).toNat=8-L%8:=by omega
  have e2:L+min (8-L%8) 32=(L+7)/8*8:=by omega
  rw[<-e2];simpa[e1] using bq
theorem UC (p:Nat) (F:List Nat) (M L:Nat) (ao:Option Addr) (cap:Nat) (bs:List UInt8) (w:World) (hW:Wr w p F M L) (hcs:Cs w ao (bs.map bv)) (cP:bs.length<=cap) (bY:ao=none->cap=0)
  (bI:bs≠[]->∀x∈ae ao,x∉F) (hL:L+8*bs.length<=562949953421200) :
  Calls Tryz.prog 251 #[.pointer (some ⟨p,0,none⟩),.slice ao bs.length cap] w (qG p F w (M+2^((L+7)/8*8)*num bs) ((L+7)/8*8+8*bs.length)):=by
 have sM:L<=562949953421200:=by omega
 have mW:=quk p F M L w hW sM;obtain⟨q,hq,hqL⟩:∃q,(L+7)/8=q/\8*q<=L+7:=⟨_,rfl,by omega⟩;rw[hq]at mW ⊢;have Hal:=af mW;clear mW hq;go_enter Tryz.func251,Tryz.ntmps251;go_upto_region 0 with fail;go_cut [] (λwc=>Fr F w wc/\∃F',Wr wc p F' M (q*8)/\∀y∈F',y∈F\/w.heap.size<=y);case first=>go_wp2_with (go_at_call 252;refine Hal.out.mono ?_;rintro e w' ⟨rfl,rR,cD⟩);go_meet;exact⟨rR,cD⟩
 case rest=>
 obtain⟨rR,F',sK,S6⟩:=hcut;obtain⟨v,⟨hr,aA,bT,hM⟩,rfl⟩:=sK;rw[show q*8/8=q from by omega]at aA hr;rw[show q*8%8=0 from by omega]at hr;have SZ:M<2^(8*q):=by rwa [nE]
 have Jd:Cs wc ao (bs.map bv):=by
  by_cases oD:bs=[]
  ·exact .inl (by rw[oD];rfl)
  ·exact hcs.fr rR (bI oD)
 have c0:=cell_of hr 0;have f0:=aO hr 0;simp only[bw,aV]at c0;have Hr:=af hr;clear hr;go_wp2_with (refine iq aq rfl _ _ rfl v q _ v.ownBlock.toList rfl rfl aA ao bs.length cap (bs.map bv) rfl cP bY Jd (by simp) (jQ bs) (by omega) (by unfold maxLen;omega) ?_;intro lq fX w1 A1;have fx:=A1.fr.ae Hr.out (by simpa using bT);have d1:=cell_of fx 0;have g1:=aO fx 0;simp only[bw,aV]at d1);go_end0;have bR:(Value.slice lq (q+bs.length) fX).ownBlock≠some p:=by
  intro h;have h2:=lt_of_block Hr.out;rcases A1.at_ p (by rw[<-dw lq (q+bs.length) fX,h];simp) with h1|h1
  ·exact bT (by simpa using h1)
  ·omega
 have fk:Fr F w w1:=rR.step A1.fr (λk hk=>S6 k (by simp[Option.mem_toList.1 hk]));refine⟨rfl,?_,_,⟨.slice lq (q+bs.length) fX,⟨?_,?_,bR,?_⟩,rfl⟩,?_⟩
 ·exact fk.setCell (by have:=S6 p (by simp);simpa using this) _
 ·refine (aX fx _).trans ?_;have hd:=ZY q M bs SZ;rw[show q*8+8*bs.length=8*(q+bs.length) from by omega,Nat.mul_div_cancel_left _ (by omega:0<8),Nat.mul_mod_right,show q*8=8*q from by omega,
   Fg SZ,Fg (by rw[Ah];exact hd)]
  rfl
 ·rw[show q*8+8*bs.length=8*(q+bs.length) from by omega,Nat.mul_div_cancel_left _ (by omega:0<8),show q*8=8*q from by omega,zdl q M bs SZ,gB];exact ownsRow_setCell_other A1.own bR _
 ·rw[show q*8=8*q from by omega];exact ZY q M bs SZ
 ·intro y hy;rcases gw.1 hy with rfl|hy
  ·exact S6 _ (by simp)
  ·rw[dw]at hy;rcases A1.at_ y hy with h|h
   ·exact S6 y (by simp[Option.mem_toList.1 h])
   ·right;have:=rR.size;omega
def nX (M L:Nat) (w:World) (e:Ending) (w':World):Prop:=
 ∃ao,e = .returned (.slice ao ((L+7)/8) ((L+7)/8))/\jx w' w.heap.size 5 ao ((lj ((L+7)/8) M).map bv)/\(ao=none->(L+7)/8=0)/\(∀x∈ae ao,w.heap.size<=x)/\Fr [] w w'
theorem qui (p:Nat) (F:List Nat) (M L:Nat) (w:World) (hW:Wr w p F M L) (hL:L<=562949953421200) :
  Calls Tryz.prog 155 #[.pointer (some ⟨p,0,none⟩)] w (nX M L w):=by
 obtain⟨v,⟨hr,aA,bT,hM⟩,rfl⟩:=hW;obtain⟨ao,cap,rfl,cL,ky,vR⟩:=Hv aA;have hcs:=Cx aA;obtain⟨q,hq⟩:∃q,L/8=q:=⟨_,rfl⟩;rw[hq]at hr aA hcs bT cL;have hlen:((lj q M).map bv).length=q*1:=by simp[Ry]
 have c0:=cell_of hr 0;have c1:=cell_of hr 1;have c2:=cell_of hr 2;simp only[bw,aV,bN]at c0 c1 c2;have Hr:=af hr;clear hr;have Hq:=af hq;have NS:8*q<=L:=by omega
 clear hq;go_enter Tryz.func155,Tryz.ntmps155;go_upto_region 1 with fail;go_cut [3] (λs3 wc=>∃lq fX,s3 = .slice lq q fX/\aW w wc 5 1 [] lq q fX ((lj q M).map bv));case first=>go_wp2_with (refine iq aq rfl _ _ rfl (.slice none 0 0) 0 [] [] rfl rfl (v8 _ _ _ _) ao q cap _ rfl cL vR hcs hlen (jQ _) (by omega) (by unfold maxLen;omega) ?_;intro lq fX w1 A1;simp only[fM,vI]at A1);go_meet;exact⟨lq,fX,rfl,A1⟩
 case rest=>
 obtain⟨lq,fX,rfl,A1⟩:=hcut;have fx:=A1.fr.ae Hr.out (by simp);have d1:=cell_of fx 1;have d2:=cell_of fx 2;simp only[bw,aV,bN]at d1 d2;have Hb1:=af fx;clear fx;by_cases h0:L%8=0
 ·have h1:decide ((0:Int)<((L%8:Nat):Int))=false:=by simp;omega
  have hle:=A1.le;go_wp2;all_goals go_ret
  all_goals
   have e:(L+7)/8=q:=by have:=Hq.out;omega
   have hb:∀x∈ae lq,w.heap.size<=x:=λx hx=>by have:=A1.at_ x hx;simp at this;omega
   unfold nX
   rw[e]
   exact⟨lq,by first|rfl|simp,Wf A1.own hb,λh=>by have:=A1.nil h;omega,hb,A1.fr⟩
 ·have h1:decide ((0:Int)<((L%8:Nat):Int))=true:=by simp;omega
  have tD:Value.int .u8 (IntKind.u8.wrap ((M/2^(8*q):Nat):Int))=bv (UInt8.ofNat (M/2^(8*q))):=que _;obtain⟨W,hW⟩:∃W:Nat,W=M/2^(8*q):=⟨_,rfl⟩;rw[<-hW]at d1 tD;rw[IntKind.wrap_u8']at tD;have HW:=af hW;have Hbv:=af tD;clear hW tD;have hb:∀x∈ae lq,w.heap.size<=x:=λx hx=>by have:=A1.at_ x hx;simp at this;omega
  have Hb:=af hb;clear hb c1;go_upto_region 3 with fail;go_cut [3] (λs3 wz=>∃cX dh,s3 = .slice cX (q+1) dh/\wz.ownsRow 0 5 1 (.slice cX (q+1) dh) (q+1) ((lj (q+1) M).map bv)/\(∀x∈ae cX,w.heap.size<=x)/\Fr [] w wz/\q+1<=dh);case first=>
   go_wp2_with (refine iq aq rfl _ _ rfl (.slice lq q fX) q _ (ae lq) rfl (dw _ _ _) (A1.own.alloc _) _ 1 1 _ rfl (by decide) (by simp) (by exact ny _ _ _ _ (bx _ _)) (by rfl) (by simp[Value.oneCell']) (by omega) (by unfold maxLen;omega) ?_;intro cX dh w2 A2);go_meet;have cF:=A1.fr.size;refine⟨cX,dh,rfl,?_,λx hx=>?_,((A1.fr.alloc _).step A2.fr λx hx=>?_),A2.le⟩
   ·have h:=A2.own;rw[Hbv.out,HW.out]at h;rw[qua,gB];exact h
   ·rcases A2.at_ x hx with h|h
    ·exact Hb.out x h
    ·simp at h;omega
   ·right;exact Hb.out x hx
  case rest=>
  obtain⟨cX,dh,rfl,wu,jY,fk,hle⟩:=hcut;have Hb2:=af jY;clear jY;go_wp2;all_goals go_ret
  all_goals
   have e:(L+7)/8=q+1:=by have:=Hq.out;omega
   unfold nX
   rw[e]
   refine⟨cX,by first|rfl|simp,Wf wu Hb2.out,λh=>?_,Hb2.out,fk⟩
   rcases wu.2 with⟨h3,_⟩|⟨g,cap,cur,h3,_⟩
   ·simp at h3
   ·subst h;simp at h3
end bits
namespace wb
open Go Go.RowKit lib bm bl
def Wb (w:World) (p:Nat) (F:List Nat) (l:List Bool):Prop:=bits.Wr w p F (cW l) l.length
def cJ (p:Nat) (F:List Nat) (w:World) (l:List Bool) (e:Ending) (w':World):Prop:=
 e = .returned (.tuple #[])/\Fr F w w'/\∃F',Wb w' p F' l/\∀y∈F',y∈F\/w.heap.size<=y
theorem yH {w w':World} {p:Nat} {F S:List Nat} {l:List Bool} (h:Wb w p F l) (f:Fr S w w') (hn:∀x∈F,x∉S):Wb w' p F l:=bits.zfy h f hn
theorem Kj {w:World} {p:Nat} {F:List Nat} {l:List Bool} (h:Wb w p F l):∀x∈F,x<w.heap.size:=bits.zfx h
theorem Ts (p:Nat) (F:List Nat) (l:List Bool) (x:Nat) (n:Int) (w:World) (h:Wb w p F l) (hx:x<4294967296) (hL:l.length<=562949953421312) :
  Calls Tryz.prog 247 #[.pointer (some ⟨p,0,none⟩),.int .u32 x,.int .i64 n] w (cJ p F w (l++fD (min n.toNat 32) x)):=by
 have:=bits.Ks p F (cW l) l.length x n w h hx hL;refine this.mono λe w' ⟨h1,h2,F',h3,h4⟩=>⟨h1,h2,F',?_,h4⟩
 unfold Wb;rw[Fw,UD,aK,aH];exact h3
theorem zfp (p:Nat) (F:List Nat) (l:List Bool) (x:Nat) (n:Int) (w:World) (h:Wb w p F l) (hx:x<4294967296) (hL:l.length<=562949953421200) :
  Calls Tryz.prog 246 #[.pointer (some ⟨p,0,none⟩),.int .u32 x,.int .i64 n] w (cJ p F w (l++msb (min n.toNat 32) x)):=by
 have:=bits.zb0 p F (cW l) l.length x n w h hx hL;refine this.mono λe w' ⟨h1,h2,F',h3,h4⟩=>⟨h1,h2,F',?_,h4⟩
 unfold Wb;rw[Fw,zb6,aK,KI];exact h3
theorem ZF (p:Nat) (F:List Nat) (l:List Bool) (ao:Option Addr) (cap:Nat) (bs:List UInt8) (w:World) (h:Wb w p F l) (hr:lib.Rd w ao cap bs) (bI:bs≠[]->∀x∈ae ao,x∉F)
  (hL:l.length+8*bs.length<=562949953421200) :
  Calls Tryz.prog 251 #[.pointer (some ⟨p,0,none⟩),.slice ao bs.length cap] w (cJ p F w (iR l++aC bs)):=by
 have:=bits.UC p F (cW l) l.length ao cap bs w h hr.cs hr.le hr.nil bI hL;refine this.mono λe w' ⟨h1,h2,F',h3,h4⟩=>⟨h1,h2,F',?_,h4⟩
 unfold Wb;rw[Fw,zb5,VY,aK,RX,AE];exact h3
theorem qy7 (p:Nat) (F:List Nat) (l:List Bool) (w:World) (h:Wb w p F l) (h0:0<l.length) (hL:l.length<=562949953421200) :
  Calls Tryz.prog 155 #[.pointer (some ⟨p,0,none⟩)] w (aD w (bytesOf l)):=by
 have:=bits.qui p F (cW l) l.length w h hL;refine this.mono λe w' ⟨ao,h1,h2,h3,h4,h5⟩=>⟨ao,by rw[bytesOf_length];exact h1,⟨h2.cs,aw _,by rw[bytesOf_length];unfold maxLen;omega,λhn=>by rw[bytesOf_length];exact h3 hn⟩,λx hx=>⟨h4 x hx,?_⟩,h5⟩
 rcases h2 with h2|⟨g,cur,rfl,_,hg,_⟩
 ·have:=congrArg List.length h2;rw[cN,Ry,lK]at this;omega
 ·simp[ae]at hx;rw[hx];exact lt_of_block hg
end wb
namespace defl
open Go Go.RowKit lib bm bl wb
theorem zd0 (b:Bool):fD 1 (if b then 1 else 0)=[b]:=by cases b<;>rfl
theorem Hk (p:Nat) (F:List Nat) (l:List Bool) (last:Bool) (kind:Nat) (w:World) (h:Wb w p F l) (hk:kind<4294967296) (hL:l.length<=562949953421000) :
  Calls Tryz.prog 243 #[.pointer (some ⟨p,0,none⟩),.bool last,.int .u32 kind] w (cJ p F w (l++last::fD 2 kind)):=by
 have h1:=Ts p F l (if last then 1 else 0) 1 w h (by split<;>decide) (by omega);have h2:=λw F h=>Ts p F (l++[last]) kind 2 w h hk (by rw[aK,yR];omega)
 have e1:fD (min (1:Int).toNat 32) (if last then 1 else 0)=[last]:=zd0 last;have e2:fD (min (2:Int).toNat 32) kind=fD 2 kind:=rfl;rw[e1]at h1;simp only[e2,gH,List.singleton_append]at h2;unfold cJ at h1 h2;have H:=af h2;clear h2 e1 e2 h;cases last with
 | true=>
  have H1:=af h1;clear h1;go_enter Tryz.func243,Tryz.ntmps243;go_upto_region 4 with (go_at_call 247;refine H1.out.mono ?_;rintro e w1 ⟨rfl,f1,F1,W1,n1⟩);have H2:=au f1 n1 (H.out w1 F1 W1);clear f1 n1 W1;go_wp2_with (go_at_call 247;refine H2.out.2.2.mono ?_;rintro e w2 ⟨rfl,f2,F2,W2,n2⟩);go_end0;unfold cJ;exact⟨rfl,H2.out.1.step f2 (λy hy=>by rcases H2.out.2.1 y hy with k|k;exact .inl k;exact .inr k),F2,W2,λy hy=>by rcases n2 y hy with k|k;exact H2.out.2.1 y k;exact .inr (bS H2.out.1.size k)⟩
 | false=>have H1:=af h1;clear h1;go_enter Tryz.func243,Tryz.ntmps243;go_upto_region 4 with (go_at_call 247;refine H1.out.mono ?_;rintro e w1 ⟨rfl,f1,F1,W1,n1⟩);have H2:=au f1 n1 (H.out w1 F1 W1);clear f1 n1 W1;go_wp2_with (go_at_call 247;refine H2.out.2.2.mono ?_;rintro e w2 ⟨rfl,f2,F2,W2,n2⟩);go_end0;unfold cJ;exact⟨rfl,H2.out.1.step f2 (λy hy=>by rcases H2.out.2.1 y hy with k|k;exact .inl k;exact .inr k),F2,W2,λy hy=>by rcases n2 y hy with k|k;exact H2.out.2.1 y k;exact .inr (bS H2.out.1.size k)⟩
def rW (n:Nat):List UInt8:=[UInt8.ofNat n,UInt8.ofNat (n/256),UInt8.ofNat (255-n%256),UInt8.ofNat (255-n/256%256)]
theorem zZ (x:Nat) (h:x<256):bits .xor .u8 IntKind.u8.max ((x:Nat):Int)=((255-x:Nat):Int):=by
 have h1:∀x:Fin 256,bits .xor .u8 IntKind.u8.max (x.1:Int)=((255-x.1:Nat):Int):=by decide +kernel
 exact h1 ⟨x,h⟩
theorem qwi (n c1 c2:Nat) (h:n<=65535) (h1:c1=255-n%256) (h2:c2=255-n/256%256):(rW n).map bv=[.int .u8 ((n:Int)%256),.int .u8 ((n:Int)/256),.int .u8 c1,.int .u8 c2]:=by simp only[rW,gW,oJ,bv,AA];refine Fp.2 ⟨int_eq (by omega),Fp.2 ⟨int_eq (by omega),Fp.2 ⟨int_eq (by omega),Fp.2 ⟨int_eq (by omega),rfl⟩⟩⟩⟩
def dC (l:List Bool) (last:Bool) (b:List UInt8):List Bool:=iR (l++last::fD 2 0)++aC (rW b.length)++aC b
theorem R1 (l:List Bool) (last:Bool) (b:List UInt8):(dC l last b).length=(l.length+10)/8*8+32+8*b.length:=by unfold dC;rw[aK,aK,RX,AE,AE,aK,cQ,aH];show (l.length+(2+1)+7)/8*8+8*4+8*b.length=_;omega
theorem qp2 (p:Nat) (F:List Nat) (l:List Bool) (last:Bool) (a:Option Addr) (cap:Nat) (b:List UInt8) (w:World) (h:Wb w p F l) (hr:lib.Rd w a cap b) (bI:b≠[]->∀x∈ae a,x∉F)
  (hL:l.length<=549755813888) (hb:b.length<=65535) :
  Calls Tryz.prog 250 #[.agg #[.slice a b.length cap],.pointer (some ⟨p,0,none⟩),.bool last] w (cJ p F w (dC l last b)):=by
 obtain⟨n,hn⟩:=ah b.length;have hle:=hr.le;rw[<-hn]at hle hb ⊢;have f0:Fr [] w (w.alloc (.cells #[.slice a n cap] 238)):=(Fr.refl [] w).alloc _;have oq:(w.alloc (.cells #[.slice a n cap] 238)).heap.size=w.heap.size+1:=eZ _ _;have kL:=bx w (.cells #[.slice a n cap] 238);have hh:=Hk p F l last 0 _ (yH h f0 (by simp)) (by decide) (by omega);unfold cJ at hh;have aY:=Kj h;have H:=cz hh f0 kL (And.intro hr bI) hn aY oq;clear hh f0 kL hr bI hn aY oq h;go_enter Tryz.func250,Tryz.ntmps250;go_upto_region 2 with (go_at_call 243;refine H.o0.mono ?_;rintro e w1 ⟨rfl,f1,F1,W1,n1⟩);obtain⟨B,hB⟩:=ah w.heap.size;have Lw:B∉F:=λhm=>by have:=H.o5 B hm;omega
 have fx:=f1.ae H.o2 (by rw[<-hB];exact Lw);rw[<-hB]at fx ⊢;have cb1:=cell_of fx 0;simp only[bw,aV]at cb1;have H1:=aP f1 n1 W1 fx hB;clear f1 n1 W1 fx hB;obtain⟨c1,cL⟩:∃c,c=255-n%256:=⟨_,rfl⟩;obtain⟨c2,ky⟩:∃c,c=255-n/256%256:=⟨_,rfl⟩;have x1:bits .xor .u8 IntKind.u8.max ((n:Int)%256)=(c1:Int):=by have:=zZ (n%256) (by omega);rw[cL,<-this];rfl
 have x2:bits .xor .u8 IntKind.u8.max ((n:Int)/256)=(c2:Int):=by have:=zZ (n/256) (by omega);rw[ky,show n/256%256=n/256 from by omega,<-this];rfl
 have hm:=qwi n c1 c2 hb cL ky;have hr4:lib.Rd (w1.alloc (.cells #[.int .u8 ((n:Int)%256),.int .u8 ((n:Int)/256),.int .u8 c1,.int .u8 c2] 5)) (some ⟨w1.heap.size,0,none⟩) 4 (rW n):=
  ⟨by rw[hm];exact zE w1 _ _ _,aw _,by decide,λh=>by cases h⟩
 have f2:Fr [] w1 (w1.alloc (.cells #[.int .u8 ((n:Int)%256),.int .u8 ((n:Int)/256),.int .u8 c1,.int .u8 c2] 5)):=(Fr.refl [] w1).alloc _;have hlen:(l++last::fD 2 0).length=l.length+3:=by rw[aK,cQ,aH]
 have ke:=ZF p F1 (l++last::fD 2 0) _ 4 (rW n) _ (yH H1.out.2.2.1 f2 (by simp)) hr4 (λ_ x hx hm=>by have:=Kj H1.out.2.2.1 x hm;simp[ae]at hx;omega) (by rw[hlen];show _+8*4<=_;omega);unfold cJ at ke;have H2:=au ke f2 hlen;clear cL ky hm hr4 f2 ke hlen;go_upto_region 4 with (go_at_call 251;refine H2.o0.mono ?_;rintro e w3 ⟨rfl,f3,F3,W3,n3⟩);have BU:Fr F w w3:=((H.o1.mono (by simp)).step H1.out.1 (λy hy=>.inl hy)).step (H2.o1.mono (T:=F1) (by simp) |>.trans f3) (λy hy=>by
  rcases H1.out.2.1 y hy with k|k
  ·exact .inl k
  ·right
   have:=H.l6
   omega)
 have Lw:B∉F1:=λhm=>by
  have k1:=H1.out.2.2.2.2;rcases H1.out.2.1 B hm with k|k
  ·have:=H.o5 B k;omega
  ·have:=H.l6;omega
 have jd:=f3.ae (H2.o1.ae H1.out.2.2.2.1 (by simp)) Lw;have cb3:=cell_of jd 0;simp only[bw,aV]at cb3;have Xr:∀y∈F3,y∈F\/w.heap.size<=y:=λy hy=>by
  have k0:=H.l6;have k3:=H1.out.1.size;have k4:=H2.o1.size;rcases n3 y hy with k|k
  ·rcases H1.out.2.1 y k with k2|k2
   ·exact .inl k2
   ·right;omega
  ·right;omega
 have NN:lib.Rd w3 a cap b:=zF H.o3.1 BU H.o3.2;have ke:=ZF p F3 _ a cap b w3 W3 NN (λbR x hx hm=>by
  rcases Xr x hm with k|k
  ·exact H.o3.2 bR x hx k
  ·have:=Ag H.o3.1 bR x hx;omega) (by
   rw[aK,RX,AE,H2.l2,<-H.o4]
   show (l.length+3+7)/8*8+8*4+8*n<=_
   omega)
 have hp8:iR (iR (l++last::fD 2 0)++aC (rW n))++aC b=dC l last b:=by rw[qw3 _ (by rw[aK,RX,AE];omega),dC,<-H.o4]
 rw[hp8,<-H.o4]at ke;unfold cJ at ke;have H3:=au ke BU Xr;clear ke BU Xr NN hp8 f3 n3 W3 jd cb1;go_wp2_with (go_at_call 251;refine H3.o0.mono ?_;rintro e w4 ⟨rfl,f4,F4,W4,n4⟩);go_end0;unfold cJ;refine⟨rfl,H3.o1.step f4 H3.l2,F4,W4,λy hy=>?_⟩;rcases n4 y hy with k|k
 ·exact H3.l2 y k
 ·exact .inr (bS H3.o1.size k)
end defl
namespace lib
open Go Go.RowKit Go.ChangeShapes Go.WideShapes
structure Rv where
 ao:Option Addr
 cap:Nat
 bs:List UInt8
def Rv.val (r:Rv):Value:=.slice r.ao r.bs.length r.cap
theorem qm8 {α:Type} {P:Nat->α->Prop}:∀(n:Nat),(∀i,i<n->∃x,P i x)->∃l:List α,l.length=n/\∀(i:Nat) (h:i<l.length),P i l[i]
 | 0,_=>⟨[],rfl,λi h=>by cases h⟩
 | n+1,h=>by
  obtain⟨l,h1,h2⟩:=qm8 n λi hi=>h i (by omega)
  obtain⟨x,hx⟩:=h n (by omega);refine⟨l++[x],by simp[h1],λi hi=>?_⟩;by_cases hl:i<l.length
  ·rw[List.getElem_append_left hl];exact h2 i hl
  ·simp at hi;obtain rfl:i=l.length:=by omega
   simp;rw[h1];exact hx
end lib
namespace defl
open Go Go.RowKit lib bm bl wb
def kZ (r:Rv):Value:=.iface 238 (.agg #[.slice r.ao r.bs.length r.cap])
def bL (l:List Bool):List (List UInt8)->List Bool
 | []=>l
 | b::t=>bL (dC l (t.isEmpty) b) t
theorem qk5:∀(t:List (List UInt8)) (l:List Bool),l.length<=(bL l t).length
 | [],_=>aw _
 | b::t,l=>by have:=qk5 t (dC l t.isEmpty b);rw[R1]at this;rw[bL];omega
theorem qos (t:List (List UInt8)) (l:List Bool) (h:0<t.length):0<(bL l t).length:=by
 cases t with
 | nil=>simp at h
 | cons b t=>have:=qk5 t (dC l t.isEmpty b);rw[R1]at this;rw[bL];omega
theorem Z4 (w:World):Wb (w.alloc (.cells #[.slice none 0 0,.int .u64 0,.int .i64 0] 245)) w.heap.size [w.heap.size] []:=
 ⟨.slice none 0 0,⟨bx w _,v8 _ _ _ _,by simp[Value.ownBlock],by decide⟩,rfl⟩
theorem qnn (a:Option Addr) (cap:Nat) (rows:List Rv) (w:World) (hcs:Cs w a (rows.map kZ)) (hle:rows.length<=cap) (cP:cap<=maxLen)
  (dI:∀r∈rows,lib.Rd w r.ao r.cap r.bs/\r.bs.length<=65535) (h0:0<rows.length) (hn:rows.length<=100000) :
  Calls Tryz.prog 128 #[.slice a rows.length cap] w (aD w (bytesOf (bL [] (rows.map Rv.bs)))):=by
 obtain⟨n,qe⟩:=ah rows.length;rw[<-qe]at hle h0 hn ⊢;unfold maxLen at cP;obtain⟨g0,o0,rfl,hc⟩:=hcs.at (by rw[cN];omega);have H:=au hc dI qe;clear hc dI qe hcs;go_enter Tryz.func128,Tryz.ntmps128;go_upto_block 0 with fail;obtain⟨p,hp⟩:=ah w.heap.size;have w0:=Z4 w;have f0:Fr [] w (w.alloc (.cells #[.slice none 0 0,.int .u64 0,.int .i64 0] 245)):=(Fr.refl [] w).alloc _;rw[<-hp]at w0 ⊢;have H0:=au w0 f0 hp;clear w0 f0 hp;go_wp2;go_loopg [4,5,6,7,10] n (λk s4 s5 s6 s7 s10 wr=>∃(i:Nat) (F:List Nat) (l:List Bool),s10 = .int .i64 (i:Nat)/\i+k=n/\Wb wr p F l/\Fr [] w wr/\(∀x∈F,w.heap.size<=x)/\l.length<=i*524360/\bL l ((rows.drop i).map Rv.bs)=bL [] (rows.map Rv.bs));case atStart=>exact⟨0,[p],[],rfl,by omega,H0.o0,H0.o1,λx hx=>by simp at hx;rw[hx,H0.l2];exact aw _,aw _,rfl⟩
 case round=>
  obtain⟨i,F,l,rfl,bU,hW,hf,hF,hl,aE⟩:=hrel;by_cases hi:i<n
  ·obtain⟨k,rfl⟩:∃k,gk=k+1:=⟨gk-1,by omega⟩;have Li:i<rows.length:=by rw[<-H.out.2.2];exact hi
   have rP:=hf.cell (H.out.1 i (kZ rows[i]) (by rw[j5,bO Li];rfl)) (by simp);obtain⟨bP,hlen⟩:=H.out.2.1 rows[i] (vJ Li);unfold kZ at rP;have hdr:(rows.drop i).map Rv.bs=rows[i].bs::(rows.drop (i+1)).map Rv.bs:=by rw[AF Li,gW]
   rw[hdr,bL]at aE;obtain⟨b,hb⟩:=ah (rows[i].bs);obtain⟨ba,Yi⟩:∃b,b=rows[i].ao:=⟨_,rfl⟩;obtain⟨bc,Jm⟩:∃b,b=rows[i].cap:=⟨_,rfl⟩;obtain⟨bn,tF⟩:∃n,n=b.length:=⟨_,rfl⟩;rw[<-hb]at rP bP hlen aE;rw[<-Yi,<-Jm,<-tF]at rP;rw[<-Yi,<-Jm]at bP;rw[<-tF]at hlen;have HR:=au bP tF aE;have HW:=aF hW hf hF hl;clear bP tF aE hW hf hF hl hdr hb Yi Jm;have d1:decide ((65535:Int)<bn)=false:=by simp;omega
   have xP:∀w:World,(Instr.typeAssert (.iface 238 (.agg #[.slice ba bn bc])) 247 238 true).run Tryz.prog w = .ok (.tuple #[.agg #[.slice ba bn bc],.bool true]) w:=λ_=>by kernel_rfl
   have wT:∀(f:Nat) (w:World),(method (f+1) 238 (.agg #[.slice ba bn bc]) "stemma/deflate.write").run Tryz.prog w = .ok (250,.agg #[.slice ba bn bc]) w:=λ_ _=>by kernel_rfl
   have On:((i:Int)==(n:Int)-1)=((rows.drop (i+1)).map Rv.bs).isEmpty:=by rw[Bool.eq_iff_iff,List.isEmpty_iff];simp only[beq_iff_eq,List.map_eq_nil_iff,List.drop_eq_nil_iff,<-H.l2];omega
   obtain⟨lst,IY⟩:∃b,b=((rows.drop (i+1)).map Rv.bs).isEmpty:=⟨_,rfl⟩;rw[<-IY]at On;have f1:Fr [] wr (wr.alloc (.cells #[.slice ba bn bc] 238)):=(Fr.refl [] wr).alloc _;have iZ:(wr.alloc (.cells #[.slice ba bn bc] 238)).heap.size=wr.heap.size+1:=eZ _ _;have La:=qp2 p F l lst ba bc b _ (yH HW.o0 f1 (by simp)) ((HR.o0.fr HW.o1).fr f1) (λbR x hx hm=>by have:=Ag HR.o0 bR x hx;have:=HW.o2 x hm;omega) (by have:=HW.l3;omega) (by rw[<-HR.o1];exact hlen);rw[<-HR.o1]at La;unfold cJ at La;have HS:=aF La f1 iZ IY;clear La f1 iZ IY;go_wp2_with (go_at_call 250;refine HS.o0.mono ?_;rintro e w2 ⟨rfl,f2,F2,W2,n2⟩;have H2:=au f2 W2 n2;clear f2 W2 n2);go_roundg k;case measure=>omega
   case rel=>
    have k1:=HW.o1.size;have k2:=HS.o2;refine⟨i+1,F2,dC l lst b,by go_num,by omega,H2.out.2.1,(HW.o1.trans HS.o1).step H2.out.1 (λy hy=>.inr (HW.o2 y hy)),λy hy=>?_,?_,?_⟩
    ·rcases H2.out.2.2 y hy with h|h
     ·exact HW.o2 y h
     ·omega
    ·rw[R1,<-HR.o1];have:=HW.l3;omega
    ·rw[HS.l3];exact HR.l2
  ·obtain rfl:i=n:=by omega
   have hdn:rows.drop i=[]:=CK (by rw[<-H.l2];exact aw _);rw[hdn]at aE;have kg:=qy7 p F l wr hW (by
    have:0<l.length:=by
     rw[<-show bL l (List.map Rv.bs [])=l from rfl,aE]
     exact qos _ _ (by rw[cN,<-H.l2];exact h0)
    exact this) (by omega)
   have e:bytesOf l=bytesOf (bL [] (rows.map Rv.bs)):=by rw[<-aE];rfl
   rw[e]at kg;unfold aD at kg;have HB:=ak kg hf;clear kg hW hf hF hl aE hdn e;go_wp2_with (go_at_call 155;refine HB.o0.mono ?_;rintro e w2 ⟨a2,rfl,r2,n2,f2⟩);go_ret;unfold aD;exact⟨a2,rfl,r2,λx hx=>⟨bS HB.l1.size (n2 x hx).1,(n2 x hx).2⟩,HB.l1.trans f2⟩
def chunks:Nat->List UInt8->List (List UInt8)
 | 0,b=>[b]
 | f+1,b=>if 65535<b.length then b.take 65535::chunks f (b.drop 65535) else [b]
theorem qra {f:Nat} {b:List UInt8} (h:b.length<=65535):chunks f b=[b]:=by
 cases f with
 | zero=>rfl
 | succ f=>rw[chunks,if_neg (by omega)]
def sk (b:List UInt8):List Bool:=bL [] (chunks b.length b)
def bD (b:List UInt8):List UInt8:=bytesOf (sk b)
theorem yr:ax Tryz.prog 201 247 .nilIface 1 16:=ax.of Tryz.underlying201 (by kernel_rfl) rfl (by decide)
structure Pl (w wr:World) (rows:List Rv) (ao:Option Addr) (c:Nat):Prop where
 own:wr.ownsRow 0 247 1 (.slice ao rows.length c) rows.length (rows.map kZ)
 fr:Fr [] w wr
 new:∀x∈ae ao,w.heap.size<=x
 row:∀r∈rows,lib.Rd w r.ao r.cap r.bs/\r.bs.length<=65535
theorem Pl.push {w wr w2:World} {rows:List Rv} {ao a2:Option Addr} {c c2 n:Nat} (h:Pl w wr rows ao c) (r:Rv) (o:Obj) (hn:rows.length=n) (hr:lib.Rd w r.ao r.cap r.bs/\r.bs.length<=65535)
  (A:aW (wr.alloc o) w2 247 1 (ae ao) a2 (n+1) c2 (rows.map kZ++[kZ r])):Pl w w2 (rows++[r]) a2 c2:=by
 have f1:Fr [] wr (wr.alloc o):=(Fr.refl [] wr).alloc o;refine⟨by rw[aK,yR,gB,hn];exact A.own,(h.fr.trans f1).step A.fr λy hy=>.inr (h.new y hy),λy hy=>?_,λx hx=>?_⟩
 ·rcases A.at_ y hy with k|k
  ·exact h.new y k
  ·have:=h.fr.size;rw[eZ]at k;omega
 ·rcases jy.1 hx with k|k
  ·exact h.row x k
  ·rw[iQ.1 k];exact hr
theorem qz7 {m n rl t n2 r2:Nat} (h:n*m+rl=t) (hb:m<=rl) (h1:n2=n+1) (h2:r2=rl-m):n2*m+r2=t:=by subst h1 h2;rw[Nat.succ_mul];omega
theorem qqe (a:Option Addr) (cap:Nat) (b:List UInt8) (w:World) (h:lib.Rd w a cap b) (hlen:b.length<=1000000) :
  Calls Tryz.prog 125 #[.slice a b.length cap] w (aD w (bD b)):=by
 have H:=af h;clear h;go_enter Tryz.func125,Tryz.ntmps125;go_upto_block 0 with fail;go_wp2;go_loopg [0,3] b.length (λk s0 s3 wr=>∃(a0 ao:Option Addr) (c0 c rl n:Nat) (rem:List UInt8) (rows:List Rv),s0 = .slice a0 rl c0/\s3 = .slice ao n c/\rl=rem.length/\n=rows.length/\lib.Rd w a0 c0 rem/\Pl w wr rows ao c/\rem.length<=k/\rows.map Rv.bs++chunks k rem=chunks b.length b/\rows.length*65535+rem.length=b.length);case atStart=>exact⟨a,none,cap,0,b.length,0,b,[],rfl,rfl,rfl,rfl,H.out,⟨v8 _ _ _ _,Fr.refl _ _,by simp[ae],by simp⟩,aw _,rfl,by simp⟩
 case round=>
  obtain⟨a0,ao,c0,c,rl,n,rem,rows,rfl,rfl,rh,hn,bP,hp,hk,dV,D6⟩:=hrel;have hle:=bP.le;rw[<-rh]at hle hk D6;rw[<-hn]at D6;have HP:=aP bP hp rh hn dV;obtain⟨_,_,lT,o1,o2,o3⟩:=Hv hp.own;simp only[lN]at lT;obtain⟨rfl,_,rfl⟩:=lT;rw[<-hn]at o1;clear bP hp rh hn dV;by_cases lY:65535<rl
  ·have d1:decide ((65535:Int)<rl)=true:=by simp;omega
   obtain⟨k,rfl⟩:∃k,gk=k+1:=⟨gk-1,by omega⟩;obtain⟨m,hm⟩:∃m:Nat,m=65535:=⟨_,rfl⟩;have hsl:=λw=>FA bits.aq 65535 a0 rl c0 65535 rfl (by omega) w
   have y9:=λw=>KL bits.aq 65535 a0 rl c0 65535 rfl (by omega) hle w
   obtain⟨rs,xS⟩:∃rs:Rv,rs=⟨a0,c0,rem.take 65535⟩:=⟨_,rfl⟩;have A9:kZ rs = .iface 238 (.agg #[.slice a0 65535 c0]):=by rw[xS,kZ];simp only[eJ];rw[<-HP.o2,tU (by omega)]
   have jD:lib.Rd w rs.ao rs.cap rs.bs/\rs.bs.length<=65535:=by rw[xS];exact⟨HP.o0.take 65535,by simp only[eJ];omega⟩
   have HR:=au A9 jD xS;clear A9 jD xS hm;go_wp2_with (refine iq yr rfl _ _ rfl (.slice ao n c) n (rows.map kZ) (ae ao) rfl (dw _ _ _) (by rw[HP.o3];exact HP.o1.own.alloc _) (some ⟨wr.heap.size,0,none⟩) 1 1 [kZ rs] rfl (by omega) (by simp) (by rw[HR.o0];exact zE wr _ _ _) rfl (by simp[kZ,Value.oneCell']) (by omega) (by unfold maxLen;omega) ?_;intro a2 c2 w6 A2;have HA:=af A2;clear A2);go_roundg k;case measure=>omega
   case rel=>refine⟨_,a2,_,c2,rl-65535,n+1,rem.drop 65535,rows++[rs],rfl,rfl,by rw[eQ,HP.o2],by rw[aK,HP.o3];rfl,HP.o0.drop 65535 (by rw[<-HP.o2];omega),HP.o1.push rs _ HP.o3.symm HR.o1 HA.out,by rw[eQ,<-HP.o2];omega,?_,qz7 D6 (by omega) (by rw[aK,<-HP.o3,yR]) (by rw[eQ,<-HP.o2])⟩;have h1:=HP.l4;rw[chunks,if_pos (by rw[<-HP.o2];exact lY)]at h1;rw[gB,gH,<-h1,HR.l2];rfl
  ·have d1:decide ((65535:Int)<rl)=false:=by simp;omega
   obtain⟨rs,xS⟩:∃rs:Rv,rs=⟨a0,c0,rem⟩:=⟨_,rfl⟩;have A9:kZ rs = .iface 238 (.agg #[.slice a0 rl c0]):=by rw[xS,kZ,HP.o2]
   have jD:lib.Rd w rs.ao rs.cap rs.bs/\rs.bs.length<=65535:=by rw[xS];exact⟨HP.o0,by rw[<-HP.o2];omega⟩
   have dV:(rows++[rs]).map Rv.bs=chunks b.length b:=by have h1:=HP.l4;rw[qra (by rw[<-HP.o2];omega)]at h1;rw[gB,<-h1,xS];rfl
   have HR:=au A9 jD dV;clear A9 jD xS dV;go_wp2_with ((refine iq yr rfl _ _ rfl (.slice ao n c) n (rows.map kZ) (ae ao) rfl (dw _ _ _) (by rw[HP.o3];exact HP.o1.own.alloc _) (some ⟨wr.heap.size,0,none⟩) 1 1 [kZ rs] rfl (by omega) (by simp) (by rw[HR.o0];exact zE wr _ _ _) rfl (by simp[kZ,Value.oneCell']) (by omega) (by unfold maxLen;omega) ?_;intro a2 c2 w6 A2;have mG:=af (HP.o1.push rs _ HP.o3.symm HR.o1 A2);have o21:=A2.le;have o22:=A2.max;clear A2));have pb:Calls Tryz.prog 128 #[.slice a2 (n+1) c2] w6 (aD w6 (bD b)):=by have h:=qnn a2 c2 (rows++[rs]) w6 (Fe mG.out.own) (by rw[aK,<-HP.o3];exact o21) o22 (λr hr=>⟨((mG.out.row r hr).1).fr mG.out.fr,(mG.out.row r hr).2⟩) (by rw[aK,yR];omega) (by rw[aK,<-HP.o3,yR];omega);rw[HR.l2,aK,<-HP.o3]at h;exact h
   unfold aD at pb;refine pb.mono ?_;rintro e w7 ⟨a7,rfl,r7,n7,f7⟩;go_wp2;go_ret;unfold aD;exact⟨a7,rfl,r7,λx hx=>⟨bS mG.out.fr.size (n7 x hx).1,(n7 x hx).2⟩,mG.out.fr.trans f7⟩
theorem zak (a:Option Addr) (cap:Nat) (b:List UInt8) (level:Int) (w:World) (h:lib.Rd w a cap b) (hlen:b.length<=1000000) (hl:level<=0) :
  Calls Tryz.prog 103 #[.slice a b.length cap,.int .i64 level] w (aD w (bD b)):=by
 have hp:=qqe a cap b w h hlen;unfold aD at hp;have H:=af hp;have d0:decide (level<=0)=true:=by simpa using hl
 clear hp h;go_enter Tryz.func103,Tryz.ntmps103;go_wp2_with (go_at_call 125;refine H.out.mono ?_;rintro e w1 ⟨a1,rfl,r1,n1,f1⟩);go_ret;unfold aD;exact⟨a1,rfl,r1,n1,f1⟩
def ui (level:Int):UInt8:=if level<=0 then 1 else if level=1 then 94 else 156
def bZ (level:Int) (r b:List UInt8):List UInt8:=[120,ui level]++r++sums.gh (sums.jv b)
theorem zcw (a:Option Addr) (cap:Nat) (b:List UInt8) (Qr:List UInt8->Prop) (level:Int) (w:World) (h:lib.Rd w a cap b) (rh:∀r,Qr r->r.length<=100000000)
  (ke:∀w',Fr [] w w'->Calls Tryz.prog 103 #[.slice a b.length cap,.int .i64 level] w' λe EY=>∃r,Qr r/\aD w' r e EY) :
  Calls Tryz.prog 67 #[.slice a b.length cap,.int .i64 level] w λe w'=>∃r,Qr r/\aD w (bZ level r b) e w':=by
 obtain⟨Q,hQ⟩:=ah w.heap.size;have f0:Fr [] w (w.alloc (.cells #[.int .u8 120,.int .u8 156] 5)):=(Fr.refl [] w).alloc _;have yg:(w.alloc (.cells #[.int .u8 120,.int .u8 156] 5)).heap[Q]?=some (.cells #[.int .u8 120,.int .u8 156] 5 (0,0)):=by rw[hQ];exact bx w _
 have c1:=cell_of yg 1;have z1:=aO yg 1;simp only[bw,aV,bN]at c1;have H:=aP h ke hQ f0 yg;clear h ke f0 yg;go_enter Tryz.func67,Tryz.ntmps67;go_upto_block 0 with fail;rw[<-hQ];generalize (w.alloc (.cells #[.int .u8 120,.int .u8 156] 5))=w0 at *;clear hQ;go_cut [] from 8 to 18 (λwz=>wz.heap[Q]?=some (.cells #[.int .u8 120,bv (ui level)] 5 (0,0))/\Fr [] w wz)
 case first=>
  by_cases hl:level<=0
  ·have d0:decide (level<=0)=true:=by simpa using hl
   have hz:ui level=1:=if_pos hl;have HZ:=af hz;clear hz;go_wp2;go_meet;rw[HZ.out];exact⟨aX (o:=1) H.l4 _,H.o3.setCell (by right;show w.heap.size<=Q;rw[H.o2];exact aw _) _⟩
  ·have d0:decide (level<=0)=false:=by simp;omega
   by_cases h1:level=1
   ·subst h1;go_wp2;go_meet;exact⟨aX (o:=1) H.l4 _,H.o3.setCell (by right;show w.heap.size<=Q;rw[H.o2];exact aw _) _⟩
   ·have d1:(level==1)=false:=by simpa using h1
    have hz:ui level=156:=by unfold ui;rw[if_neg hl,if_neg h1]
    have HZ:=af hz;clear hz;go_wp2;go_meet;rw[HZ.out];exact⟨H.l4,H.o3⟩
 case rest=>
 obtain⟨tE,CX⟩:=hcut;obtain⟨w1,rfl⟩:∃w1:World,w1=wc:=⟨_,rfl⟩;have hr:=H.o1 w1 CX;unfold aD at hr;have H1:=au tE CX hr;have HRL:=af rh;clear tE CX hr c1 z1 rh;go_upto_region 7 with (first|(go_at_call 103;refine H1.l2.mono ?_;rintro e w2 ⟨r,hq,a2,he,r2,n2,f2⟩;obtain⟨L,hL⟩:∃L,L=r.length:=⟨_,rfl⟩;rw[<-hL]at he r2;subst he;have rh:=HRL.out r hq;rw[<-hL]at rh;have HL:=af hL;have HQ:=af hq;clear hL hq;have H2:=au r2 n2 f2;clear r2 n2 f2)|(refine AG bits.aq rfl _ _ rfl (some ⟨Q,0,none⟩) 2 2 [.int .u8 120,bv (ui level)] rfl (.inr ⟨Q,0,_,rfl,H2.l2.ae H1.o0 (by simp),aw _,by decide,aw _,rfl⟩) rfl a2 L L (r.map bv) rfl (aw _) H2.o0.nil H2.o0.cs (by rw[cN,HL.out]) (bits.jQ _) (by omega) (by unfold maxLen;omega) ?_;intro a3 c3 w3 A3;have H3:=af A3;clear A3));have Y2:Fr [] w w3:=(H1.o1.trans H2.l2).step H3.out.fr (λy hy=>.inr (by simp[ae]at hy;rw[hy,H.o2];exact aw _));have SX:Q<w1.heap.size:=lt_of_block H1.o0;have n3:∀x∈ae a3,w.heap.size<=x:=λx hx=>by
  have h1:=H2.l2.size;have h2:=H.o2;rcases H3.out.at_ x hx with k|k
  ·simp[ae]at k;omega
  ·omega
 have had:=sums.qrh a cap b w3 (H.o0.fr Y2);have Gp:=sums.Us (sums.jv b) (sums.Q8 b);have kE:=sums.Q8 b;obtain⟨x,hx⟩:=ah (sums.jv b);rw[<-hx]at had Gp kE;have H4:=aP Y2 n3 had Gp hx;clear Y2 n3 had Gp SX hx;go_upto_region 8 with (go_at_call 104;refine H4.o2.mono ?_;rintro e w4 ⟨rfl,f4⟩);have f5:Fr [] w4 (w4.alloc (.cells #[.int .u8 ((x:Int)/16777216),.int .u8 ((x:Int)/65536%256),.int .u8 ((x:Int)/256%256),.int .u8 ((x:Int)%256)] 5)):=(Fr.refl [] w4).alloc _;have o5:=(H3.out.own.fr f4 (by simp)).fr f5 (by simp);have H5:=au f5 o5 f4;clear f5 o5 f4;have vR:=H5.o1.shape;have Yg:2+L<=c3:=by have:=vR.1;simp only[aK,cQ,lK,cN]at this;rw[HL.out];omega
 obtain⟨N,hN⟩:=ah (2+L+4);clear vR;go_upto_region 9 with (refine AG bits.aq rfl _ _ rfl a3 (2+L) c3 ([.int .u8 120,bv (ui level)]++r.map bv) rfl H5.o1 (by simp only[aK,cQ,lK,cN];rw[HL.out]) (some ⟨w4.heap.size,0,none⟩) 4 4 ((sums.gh x).map bv) rfl (by omega) (by simp) (by rw[H4.o3];exact zE w4 _ _ _) rfl (bits.jQ _) (by omega) (by unfold maxLen;omega) ?_;intro a6 c6 w6 A6;have H6:=af A6;clear A6);rw[<-hN];have uJ:(bZ level r b).map bv=[.int .u8 120,bv (ui level)]++r.map bv++(sums.gh x).map bv:=by unfold bZ;rw[gB,gB,<-H4.l4];rfl
 have KS:(bZ level r b).length=N:=by unfold bZ;rw[aK,aK,<-HL.out,hN];rfl
 have ho:=H6.out.own;rw[<-uJ]at ho;obtain⟨s1,s2,s3⟩:=ho.shape;rw[cN,KS]at s1;have hsl:=λw=>Wg bits.aq N a6 c6 s1 w
 have HZ:=ak ho KS;clear ho KS uJ hN;go_wp2;go_ret;unfold aD;have WE:w4.heap.size<=w6.heap.size:=bS H5.o0.size H6.out.fr.size;refine⟨r,HQ.out,?_⟩;rw[HZ.out.2];refine⟨a6,rfl,⟨HZ.out.1.cs,by rw[HZ.out.2];exact aw _,bS s1 s2,λh=>by have:=s3 h;omega⟩,λy hy=>⟨?_,HZ.out.1.lt y hy⟩,(H4.o0.trans H5.l2).step (H5.o0.mono (T:=ae a3) (by simp) |>.trans (H6.out.fr)) (λy hy=>.inr (H4.o1 y hy))⟩;have k0:=H4.o0.size;have k1:=H5.l2.size;have k2:=H5.o0.size;rcases H6.out.at_ y hy with k|k
 ·exact H4.o1 y k
 ·omega
end defl

end Go.Proofs.YtkmpfgpfbmeihaaGreatDoor