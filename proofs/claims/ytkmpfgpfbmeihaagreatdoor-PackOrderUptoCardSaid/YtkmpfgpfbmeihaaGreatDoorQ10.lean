/-
  Texts of this proof, one behind the other: Counts, Writer, Wb, Stored, RowsArg, Written, Plain, Zlib.
-/
import Derived.Test.YtkmpfgpfbmeihaaGreatDoorQ9
import Derived.Lib.SmallJoins
set_option maxHeartbeats 16000000
set_option maxRecDepth 100000
set_option linter.unusedVariables false
set_option linter.unusedSimpArgs false
namespace Go.Proofs.YtkmpfgpfbmeihaaGreatDoor
namespace defl
open Go Go.RowKit lib bm mat huf
theorem qrv {n:Nat} (uD:11<=n) (h:n<258):∃w,1<=w/\w<=5/\4*2^w<=n-3/\n-3<8*2^w:=by
 obtain h|h:n<19\/19<=n:=by omega
 ·exact⟨1,by omega,by omega,by omega,by omega⟩
 obtain h|h:n<35\/35<=n:=by omega
 ·exact⟨2,by omega,by omega,by omega,by omega⟩
 obtain h|h:n<67\/67<=n:=by omega
 ·exact⟨3,by omega,by omega,by omega,by omega⟩
 obtain h|h:n<131\/131<=n:=by omega
 ·exact⟨4,by omega,by omega,by omega,by omega⟩
 exact⟨5,by omega,by omega,by omega,by omega⟩
theorem qsb {n:Nat} (h5:5<=n) (h:n<=32768):∃w,1<=w/\w<=13/\2*2^w<=n-1/\n-1<4*2^w:=by
 have h0:n-1≠0:=by omega
 have h1:2<=Nat.log2 (n-1):=(Nat.le_log2 h0).2 (by omega);have h2:Nat.log2 (n-1)<15:=(Nat.log2_lt h0).2 (by omega);have h3:=(Nat.le_log2 h0 (k:=Nat.log2 (n-1))).1 (ay _);have h4:=(Nat.log2_lt h0 (k:=Nat.log2 (n-1)+1)).1 (by omega);obtain⟨v,hv⟩:∃v,Nat.log2 (n-1)=v+1:=⟨Nat.log2 (n-1)-1,by omega⟩;rw[hv]at h1 h2 h3 h4;rw[pH]at h3 h4;rw[pH]at h4;exact⟨v,by omega,by omega,by omega,by omega⟩
theorem Nw {n:Nat} (h3:3<=n) (iJ:n<=258):257<=(bJ n).1/\(bJ n).1<286/\(bJ n).2.2<=5/\(bJ n).2.1<2^(bJ n).2.2:=by
 by_cases uD:n<11
 ·unfold bJ;rw[if_pos uD];simp only;omega
 ·by_cases h8:n=258
  ·subst h8;decide
  ·obtain⟨w,h1,h2,h4,h5⟩:=qrv (by omega) (show n<258 by omega);rw[VT (w:=w) (by omega) h8 h4 h5];have hp:=nQ w;have:(n-3)/2^w<8:=(Dg hp).2 h5;have:4<=(n-3)/2^w:=(Nat.le_div_iff_mul_le hp).2 h4;refine⟨by simp only;omega,by simp only;omega,h2,wH _ hp⟩
theorem Nq {n:Nat} (h1:1<=n) (h:n<=32768):(cF n).1<30/\(cF n).2.2<=13/\(cF n).2.1<2^(cF n).2.2:=by
 by_cases h5:n<5
 ·unfold cF;rw[if_pos h5];simp only;omega
 ·obtain⟨w,k1,k2,k4,k5⟩:=qsb (by omega) h;rw[VN (w:=w) (by omega) k4 k5];have hp:=nQ w;have:(n-1)/2^w<4:=(Dg hp).2 k5;exact⟨by simp only;omega,k2,wH _ hp⟩
def kG:Tok->Nat
 | .lit c=>c.toNat
 | .mat n _=>(bJ n).1
def pA:Tok->Option Nat
 | .lit _=>none
 | .mat _ d=>some (cF d).1
def nj (t:List Tok) (s:Nat):Nat:=(t.map kG).count s
def ou (t:List Tok) (s:Nat):Nat:=(t.filterMap pA).count s
theorem Nd (t:List Tok) (s:Nat):nj t s<=t.length:=by have:=MY (a:=s) (l:=t.map kG);rw[bW]at this;exact this
theorem zaq (t:List Tok) (s:Nat):ou t s<=t.length:=by have:=MY (a:=s) (l:=t.filterMap pA);exact ck this (List.length_filterMap_le _ _)
theorem qvk (t:List Tok) (x:Tok) (s:Nat):nj (t++[x]) s=if s=kG x then nj t s+1 else nj t s:=by
 unfold nj;rw[gF,FF];by_cases h:s=kG x
 ·subst h;simp
 ·rw[if_neg h];simp[kC h]
theorem zea (t:List Tok) (c:UInt8) (s:Nat):ou (t++[.lit c]) s=ou t s:=by unfold ou;rw[List.filterMap_append,show List.filterMap pA [Tok.lit c]=[] from rfl,mW]
theorem zd9 (t:List Tok) (n d s:Nat):ou (t++[.mat n d]) s=if s=(cF d).1 then ou t s+1 else ou t s:=by
 unfold ou;rw[List.filterMap_append,FF];by_cases h:s=(cF d).1
 ·subst h;simp[pA]
 ·rw[if_neg h];simp[pA,kC h]
structure Cn (p1 p2 Q1 Q2:Nat) (t:List Tok) (w:World):Prop where
 c1:w.cell? ⟨p1,0,none⟩=some (.slice (some ⟨Q1,0,none⟩) 286 286)
 c2:w.cell? ⟨p2,0,none⟩=some (.slice (some ⟨Q2,0,none⟩) 30 30)
 o1:Ow w Q1 286 (nj t)
 o2:Ow w Q2 30 (ou t)
 n1:p1≠Q1/\p1≠Q2/\p2≠Q1/\p2≠Q2/\Q1≠Q2
theorem zaw (p1 p2 Q1 Q2:Nat) (t:List Tok) (c:UInt8) (w:World) (h:Cn p1 p2 Q1 Q2 t w) (ht:t.length<=1000000) :
  Calls Tryz.prog 157 #[.int .u8 c.toNat,.pointer none,.pointer (some ⟨p1,0,none⟩),.pointer (some ⟨p2,0,none⟩)] w λe w'=>e = .returned (.tuple #[])/\Cn p1 p2 Q1 Q2 (t++[.lit c]) w'/\Fr [Q1,Q2] w w':=by
 obtain⟨s,hs⟩:=ai c.toNat;have dE:s<256:=by rw[hs];exact iL _
 rw[<-hs];have d1:=h.c1;have d3:=h.o1.cell (show s<286 by omega);have z3:=h.o1.frozen s;have hb:=Nd t s;obtain⟨F,hF⟩:=ai (nj t s);rw[<-hF]at d3 hb;have cm:=h.o1.set (show s<286 by omega) (F+1);have H:=aG h hs hF cm;clear h hs hF cm;go_enter Tryz.func157,Tryz.ntmps157;go_wp2;refine bodyPost_ret (results_none rfl _ _ _) rfl ?_;obtain⟨h,hs,hF,cm⟩:=H.out;refine⟨rfl,⟨?_,?_,cm.congr λx _=>?_,?_,h.n1⟩,(Fr.refl _ w).setCell (by simp) _⟩
 ·exact ((Fr.refl [Q1] w).setCell (by simp) _).cell h.c1 (by simpa using h.n1.1)
 ·exact ((Fr.refl [Q1] w).setCell (by simp) _).cell h.c2 (by simpa using h.n1.2.2.1)
 ·rw[qvk,hF];show (if x=s then _ else _)=if x=c.toNat then _ else _
  rw[hs];by_cases e:x=c.toNat
  ·rw[if_pos e,if_pos e,e]
  ·rw[if_neg e,if_neg e]
 ·refine (h.o2.fr ((Fr.refl [Q1] w).setCell (by simp) _) (by simpa using (kC h.n1.2.2.2.2))).congr λx _=>(zea t c x).symm
theorem zav (p1 p2 Q1 Q2 g o:Nat) (t:List Tok) (n d:Nat) (w:World) (h:Cn p1 p2 Q1 Q2 t w) (ht:t.length<=1000000) (h3:3<=n) (iJ:n<=258) (h1:1<=d) (hd:d<=32768)
  (hg:g≠Q1/\g≠Q2) (e1:w.cell? ⟨g,o+1,none⟩=some (.int .i64 n)) (e2:w.cell? ⟨g,o+2,none⟩=some (.int .i64 d)) :
  Calls Tryz.prog 157 #[.int .u8 0,.pointer (some ⟨g,o,none⟩),.pointer (some ⟨p1,0,none⟩),.pointer (some ⟨p2,0,none⟩)] w λe w'=>e = .returned (.tuple #[])/\Cn p1 p2 Q1 Q2 (t++[.mat n d]) w'/\Fr [Q1,Q2] w w':=by
 have hl:=SD n w h3 iJ;have bg:=Nw h3 iJ;have EV:=Nq h1 hd;unfold Triple at hl;obtain⟨s,hs⟩:=ai ((bJ n).1);obtain⟨s2,dE⟩:=ai ((cF d).1);rw[<-hs]at hl bg;rw[<-dE]at EV;have hsl:s<286:=bg.2.1;have zv:s2<30:=EV.1;obtain⟨F,hF⟩:=ai (nj t s);obtain⟨G,hG⟩:=ai (ou t s2);have vE:F<=1000000:=by rw[hF];exact ck (Nd _ _) ht
 have hGb:G<=1000000:=by rw[hG];exact ck (zaq _ _) ht
 have H:=pY h hs dE hF hG hl hg h1 hd e2;clear h hs dE hF hG hl bg EV ht h3 iJ h1 hd e2 hg;go_enter Tryz.func157,Tryz.ntmps157;go_upto_region 3 with (go_at_call 158;refine H.out.2.2.2.2.2.1.mono ?_;rintro e w1 ⟨rfl,f1⟩;have H1:=ah f1;clear f1);clear e1;have h1:=H.out.1;have d1:=H1.out.cell h1.c1 (by simp);have o1:=h1.o1.fr H1.out (by simp);have d3:=o1.cell hsl;rw[<-H.out.2.2.2.1]at d3;have z3:=o1.frozen s;have cm:=o1.set hsl (F+1);obtain⟨w2,bL⟩:∃w2,w2=w1.setCell ⟨Q1,s,none⟩ (.int .i64 ((F+1:Nat):Nat)):=⟨_,rfl⟩;rw[<-bL]at cm;have f2:Fr [Q1] w w2:=by rw[bL];exact (H1.out.mono (by simp)).setCell (by simp) _
 have H2:=aw cm f2 bL.symm;clear h1 o1 cm bL f2;go_upto_region 4 with fail;clear d1 d3 z3;have hw:w1.setCell ⟨Q1,s,none⟩ (.int .i64 ((F:Int)+1))=w2:=by rw[<-H2.l2];rfl
 rw[hw];clear hw;have e2:=H2.o1.cell H.out.2.2.2.2.2.2.2.2.2 (by simpa using H.out.2.2.2.2.2.2.1.1);have zJ:=S9 d w2 H.out.2.2.2.2.2.2.2.1 H.out.2.2.2.2.2.2.2.2.1;unfold Triple at zJ;rw[<-H.out.2.2.1]at zJ;have HD:=ah zJ;clear zJ;go_upto_region 5 with (go_at_call 159;refine HD.out.mono ?_;rintro e w3 ⟨rfl,f3⟩;have H3:=ah f3;clear f3);clear e2;have h1:=H.out.1;have f23:=H2.o1.trans (H3.out.mono (by simp));have d2:=f23.cell h1.c2 (by simpa using h1.n1.2.2.1);have o2:=h1.o2.fr f23 (by simpa using (kC h1.n1.2.2.2.2));have d4:=o2.cell zv;rw[<-H.out.2.2.2.2.1]at d4;have z4:=o2.frozen s2;have cm:=o2.set zv (G+1);have H4:=ak cm f23;clear h1 f23 o2 cm;go_wp2;(try simp only[Exit.inBlock,Exit.then]);refine bodyPost_end (results_none rfl _ _ _) rfl ?_;obtain⟨h,hs,dE,hF,hG,_⟩:=H.out;obtain⟨U8,f23⟩:=H4.out;have U9:=H2.o0;refine⟨rfl,⟨?_,?_,?_,?_,h.n1⟩,(f23.mono (by simp)).setCell (by simp) _⟩
 ·exact ((f23.mono (T:=[Q1,Q2]) (by simp)).setCell (by simp) _).cell h.c1 (by simpa using⟨h.n1.1,h.n1.2.1⟩)
 ·exact ((f23.mono (T:=[Q1,Q2]) (by simp)).setCell (by simp) _).cell h.c2 (by simpa using⟨h.n1.2.2.1,h.n1.2.2.2.1⟩)
 ·refine ((U9.fr H3.out (by simp)).fr ((Fr.refl [Q2] w3).setCell (by simp) _) (by simpa using h.n1.2.2.2.2)).congr λx _=>?_
  rw[qvk,hF];show (if x=s then _ else _)=if x=(bJ n).1 then _ else _
  rw[<-hs];by_cases e:x=s
  ·rw[if_pos e,if_pos e,e]
  ·rw[if_neg e,if_neg e]
 ·refine U8.congr λx _=>?_
  rw[zd9,hG];show (if x=s2 then _ else _)=if x=(cF d).1 then _ else _
  rw[<-dE];by_cases e:x=s2
  ·rw[if_pos e,if_pos e,e]
  ·rw[if_neg e,if_neg e]
theorem qok {fn:Func} {p u:Tmp} {t1 t2:TypeId} (h:fn.results=#[.cell p t1,.cell u t2]) (tmps:AV) (P:Program) (w:World) (g1 g2:Nat) (v1 v2:Value)
  (e1:tmps.getD p undef = .pointer (some ⟨g1,0,none⟩)) (e2:tmps.getD u undef = .pointer (some ⟨g2,0,none⟩)) (l1:(loadVar t1 ⟨g1,0,none⟩).run P w = .ok v1 w) (l2:(loadVar t2 ⟨g2,0,none⟩).run P w = .ok v2 w) :
  (results fn tmps).run P w = .ok (.tuple #[v1,v2]) w:=by
 have QU:tmps[p]?.getD undef = .pointer (some ⟨g1,0,none⟩):=by simpa using e1
 have e2':tmps[u]?.getD undef = .pointer (some ⟨g2,0,none⟩):=by simpa using e2
 simp only[results,h];simp[DR,QU,e2',asAddr,l1,l2,Result.andThen]
theorem qhh {w:World} {g:Nat} {v:Value} (h:w.cell? ⟨g,0,none⟩=some v):(loadVar 28 ⟨g,0,none⟩).run Tryz.prog w = .ok v w:=by have h1:=Tryz.isAgg28;simp[loadVar,h1,h]
theorem Wm (n:Nat) (h:n<=1000000):∃Z:Array Value,Z.size=n/\(∀s,s<n->Z[s]?=some (.int .i64 0))/\∀w:World,(Instr.makeSlice 28 (.int .i64 (n:Nat)) (.int .i64 (n:Nat))).run Tryz.prog w = .ok (.slice (some ⟨w.heap.size,0,none⟩) n n) (w.alloc (.cells Z 3)):=by
 obtain⟨i,hi,hz,hs,hb⟩:=info_parts Nv;refine⟨madeCells (Value.int .i64 0).cells n,size_madeCells _ _,λs gT=>?_,λw=>?_⟩
 ·rw[<-oY,show (Value.int .i64 0).cells=#[.int .i64 0] from rfl,toList_madeCells_one,Nn,if_pos gT]
 ·have:=run_make (P:=Tryz.prog) w 28 3 i (.int .i64 0) Tryz.underlying28 hi hz .i64 .i64 (n:Nat) (n:Nat) (by omega) (Int.le_refl _) (by rw[hb];omega) (by omega);rw[hs,C9,pI]at this;exact this
theorem qum {w1:World} {p1 p2:Nat} {x1 x2 v1 v2:Value} {T1 T2:TypeId} {Za Zb:AV} {T:TypeId} (b1:w1.heap[p1]?=some (.cells #[x1] T1 (0,0))) (b2:w1.heap[p2]?=some (.cells #[x2] T2 (0,0))) (hp:p1≠p2) :
  ∃W,W=((((w1.setCell ⟨p1,0,none⟩ v1).setCell ⟨p2,0,none⟩ v2).alloc (.cells Za T)).alloc (.cells Zb T)).drew/\W.heap[p1]?=some (.cells #[v1] T1 (0,0))/\W.heap[p2]?=some (.cells #[v2] T2 (0,0))/\
   W.heap[w1.heap.size]?=some (.cells Za T (0,0))/\W.heap[w1.heap.size+1]?=some (.cells Zb T (0,0))/\Fr [p1,p2] w1 W:=by
 refine⟨_,rfl,?_,?_,?_,?_,?_⟩
 ·have k1:=bI (o:=0) b1 v1;have k2:=qm (.cells Zb T) (qm (.cells Za T) ((S5 (o:=0) hp v2).trans k1));exact k2
 ·have k1:=bI (o:=0) ((S5 (o:=0) (kC hp) v1).trans b2) v2;have k2:=qm (.cells Zb T) (qm (.cells Za T) k1);exact k2
 ·have k1:=bC ((w1.setCell ⟨p1,0,none⟩ v1).setCell ⟨p2,0,none⟩ v2) (.cells Za T);rw[World.size_setCell,World.size_setCell]at k1;exact qm (.cells Zb T) k1
 ·have k1:=bC (((w1.setCell ⟨p1,0,none⟩ v1).setCell ⟨p2,0,none⟩ v2).alloc (.cells Za T)) (.cells Zb T);rw[fD,World.size_setCell,World.size_setCell]at k1;exact k1
 ·exact (((((Fr.refl [p1,p2] w1).setCell (by simp) _).setCell (by simp) _).alloc _).alloc _).drew
def nX (b:LB) (t:List Tok) (s:Nat):Nat:=nj t s+(if s=256 then 1 else 0)+(if b.length=0/\s=0 then 1 else 0)
def rj (b:LB) (t:List Tok) (w:World) (e:Ending) (w':World):Prop:=
 ∃Q1 Q2,e = .returned (.tuple #[.slice (some ⟨Q1,0,none⟩) 286 286,.slice (some ⟨Q2,0,none⟩) 30 30])/\Ow w' Q1 286 (nX b t)/\Ow w' Q2 30 (ou t)/\Fr [] w w'/\w.heap.size<=Q1/\w.heap.size<=Q2
theorem qxa (b:LB) (a al:OA) (cap cl r:Nat) (l:List Mt) (ni iU:Value) (told:Bool) (w:World) (Gz:ni.oneCell'=true) (Cc:iU.oneCell'=true)
  (hb:Rd w a cap b) (hl:Cs w al (bS l)) (pM:l.length<=cl) (rG:al=none->cl=0) (nT:cl<=maxLen) (dt:dC b r 0 l) (hr:r<=32768) (iA:b.length<=1000000) (rQ:∀x∈af a,x<w.heap.size) (oN:∀x∈af al,x<w.heap.size) :
  Calls Tryz.prog 129 #[xM a al b.length cap l.length cl ni iU told] w (rj b (bE b 0 l) w):=by
 obtain⟨Z1,jr,hZ1,mk1⟩:=Wm 286 (by decide);obtain⟨Z2,mv,Ud,Ob⟩:=Wm 30 (by decide);have Tf:∀w:World,(Instr.makeSlice 28 (.int .i64 286) (.int .i64 286)).run Tryz.prog w = .ok (.slice (some ⟨w.heap.size,0,none⟩) 286 286) (w.alloc (.cells Z1 3)):=mk1;have Te:∀w:World,(Instr.makeSlice 28 (.int .i64 30) (.int .i64 30)).run Tryz.prog w = .ok (.slice (some ⟨w.heap.size,0,none⟩) 30 30) (w.alloc (.cells Z2 3)):=Ob;clear mk1 Ob;obtain⟨B,hB⟩:=ai w.heap.size;obtain⟨w1,cP⟩:=ai (((w.alloc (.cells #[.slice a b.length cap,.slice al l.length cl,ni,iU,.bool told] 197 (0,0))).alloc (.cells #[.slice none 0 0] 28 (0,0))).alloc (.cells #[.slice none 0 0] 28 (0,0)));have f1:Fr [] w w1:=by rw[cP];exact (((Fr.refl [] w).alloc _).alloc _).alloc _
 have ve:w1.heap.size=B+3:=by rw[cP,fD,fD,fD,<-hB]
 have iI:w1.heap[B]?=some (.cells #[.slice a b.length cap,.slice al l.length cl,ni,iU,.bool told] 197 (0,0)):=by rw[cP,hB];exact qm _ (qm _ (bC w _))
 have yu:w1.heap[B+1]?=some (.cells #[.slice none 0 0] 28 (0,0)):=by rw[cP,hB];refine qm _ ?_;have:=bC (w.alloc (.cells #[.slice a b.length cap,.slice al l.length cl,ni,iU,.bool told] 197 (0,0))) (.cells #[.slice none 0 0] 28 (0,0));rwa [fD]at this
 have mN:w1.heap[B+2]?=some (.cells #[.slice none 0 0] 28 (0,0)):=by rw[cP,hB];have:=bC ((w.alloc (.cells #[.slice a b.length cap,.slice al l.length cl,ni,iU,.bool told] 197 (0,0))).alloc (.cells #[.slice none 0 0] 28 (0,0))) (.cells #[.slice none 0 0] 28 (0,0));rwa [fD,fD]at this
 have H:=pY hb hl pM rG nT dt hr iA rQ oN;have HW:=dk cP.symm f1 ve iI yu mN hB;have HZ:=aG jr hZ1 mv Ud;clear hb hl pM rG nT dt hr iA rQ oN cP f1 ve iI yu mN jr hZ1 mv Ud hB;unfold xM;go_enter Tryz.func129,Tryz.ntmps129;go_upto_region 1 with fail;rw[HW.o0,<-HW.l6,show B+1+1=B+2 from rfl];obtain⟨p1,yu⟩:=ai (B+1);obtain⟨p2,mN⟩:=ai (B+2);obtain⟨S1,ZD⟩:=ai w1.heap.size;rw[<-yu,<-mN];have b1:w1.heap[p1]?=some (.cells #[.slice none 0 0] 28 (0,0)):=by rw[yu];exact HW.o4
 have b2:w1.heap[p2]?=some (.cells #[.slice none 0 0] 28 (0,0)):=by rw[mN];exact HW.o5
 have ve:=HW.o2;have Az:p1≠p2:=by omega
 have HP:=cJ yu mN ZD ve b1 b2;go_cut [4,5] from 4 to 6 (λs4 s5 wz=>∃Q1 Q2,s4 = .slice (some ⟨Q1,0,none⟩) 286 286/\s5 = .slice (some ⟨Q2,0,none⟩) 30 30/\wz.heap[p1]?=some (.cells #[.slice (some ⟨Q1,0,none⟩) 286 286] 28 (0,0))/\wz.heap[p2]?=some (.cells #[.slice (some ⟨Q2,0,none⟩) 30 30] 28 (0,0))/\
  Ow wz Q1 286 (λ_=>0)/\Ow wz Q2 30 (λ_=>0)/\Q1≠Q2/\w1.heap.size<=Q1/\w1.heap.size<=Q2/\Fr [p1,p2] w1 wz)
 case first=>
  have c1:=cell_of b1 0;have c2:=cell_of b2 0;have z1:=aW b1 0;have z2:=aW b2 0;simp only[bF,aT]at c1 c2;have hH:=lt_of_block b1;have jC:=lt_of_block b2;have wk:¬p1=w1.heap.size:=by omega
  have jM:¬p2=w1.heap.size:=by omega
  have xm:¬p1=w1.heap.size+1:=by omega
  have L8:¬p2=w1.heap.size+1:=by omega
  clear b1 b2 yu mN ZD ve;go_region;all_goals go_wp2
  all_goals go_meet
  ·obtain⟨W,hW,k1,k2,k3,k4,k5⟩:=qum (v1:=.slice (some ⟨w1.heap.size,0,none⟩) 286 286) (v2:=.slice (some ⟨w1.heap.size+1,0,none⟩) 30 30) (Za:=Z1) (Zb:=Z2) (T:=3) HP.out.2.2.2.2.1 HP.out.2.2.2.2.2 Az;rw[<-hW];exact⟨_,_,rfl,rfl,k1,k2,⟨Z1,k3,HZ.o0,HZ.o1⟩,⟨Z2,k4,HZ.o2,HZ.l3⟩,by omega,by omega,by omega,k5⟩
  ·obtain⟨W,hW,k1,k2,k3,k4,k5⟩:=qum (v1:=.slice (some ⟨w1.heap.size+1,0,none⟩) 286 286) (v2:=.slice (some ⟨w1.heap.size,0,none⟩) 30 30) (Za:=Z2) (Zb:=Z1) (T:=3) HP.out.2.2.2.2.1 HP.out.2.2.2.2.2 Az;rw[<-hW];exact⟨_,_,rfl,rfl,k1,k2,⟨Z1,k4,HZ.o0,HZ.o1⟩,⟨Z2,k3,HZ.o2,HZ.l3⟩,by omega,by omega,by omega,k5⟩
 case rest=>
 obtain⟨Q1,Q2,rfl,rfl,Ti,Tg,o1,o2,k6,k7,k8,k9⟩:=hcut;have k1:=cell_of Ti 0;have k2:=cell_of Tg 0;simp only[bF,aT]at k1 k2;have kR:=k9.af HW.o3 (by have:=HP.out.1;have:=HP.out.2.1;simp;omega);have f0:=HW.o1;obtain⟨wo,tF⟩:∃wo:World,wo=wc:=⟨_,rfl⟩;rw[<-tF]at k1 k2 Ti Tg o1 o2 k9 kR ⊢;have f9:Fr [] w wo:=f0.step k9 λx hx=>.inr (by have:=HW.l6;have:=HP.out.1;have:=HP.out.2.1;simp at hx;omega)
 obtain⟨hb,hl,pM,rG,nT,dt,hr,iA,rQ,oN⟩:=H.out;have cV:=HW.o2;have hBz:=HW.l6;have Yw:=HP.out.1;have Yv:=HP.out.2.1;have hQz:Q1<wo.heap.size/\Q2<wo.heap.size:=by obtain⟨A,hA,_⟩:=o1;obtain⟨A2,jv,_⟩:=o2;exact⟨lt_of_block hA,lt_of_block jv⟩
 have EU:=qvy 157 #[.pointer (some ⟨p1,0,none⟩),.pointer (some ⟨p2,0,none⟩)] (λ_ _=>by kernel_rfl)
  (λt F w'=>F=[Q1,Q2]/\Cn p1 p2 Q1 Q2 t w') [Q1,Q2] b a al cap cl r l ni iU told wo Gz Cc
  (hb.fr f9) (hl.fr f9 (by simp)) pM rG nT dt hr iA
  (λx hx=>by
   have e:x=Q1\/x=Q2:=by simpa using hx
   refine⟨by omega,λh=>?_,λh=>?_⟩
   ·have:=rQ x h;omega
   ·have:=oN x h;omega)
  (λw' f=>⟨rfl,f.cell k1 (by simp),f.cell k2 (by simp),(o1.fr f (by simp)).congr λs _=>by simp[nj],(o2.fr f (by simp)).congr λs _=>by simp[ou],by omega,by omega,by omega,by omega,k6⟩)
  (λt F c w' ht ⟨hF,hc⟩=>by
   refine (zaw p1 p2 Q1 Q2 t c w' hc (by omega)).mono ?_
   rintro e w2 ⟨rfl,h2,f2⟩
   exact⟨rfl,by rw[hF];exact f2,[Q1,Q2],⟨rfl,h2⟩,λy hy=>.inl (by rw[hF];exact hy)⟩)
  (λt F n d g o w' ht ⟨hF,hc⟩ h3 iJ h1 hd hg e1 e2=>by
   refine (zav p1 p2 Q1 Q2 g o t n d w' hc (by omega) h3 iJ h1 hd (by rw[hF]at hg;simpa using hg) e1 e2).mono ?_
   rintro e w2 ⟨rfl,h2,f2⟩
   exact⟨rfl,by rw[hF];exact f2,[Q1,Q2],⟨rfl,h2⟩,λy hy=>.inl (by rw[hF];exact hy)⟩)
 unfold xM at EU;have e0:=cell_of kR 0;have e1:=cell_of kR 1;have e2:=cell_of kR 2;have e3:=cell_of kR 3;have e4:=cell_of kR 4;simp only[bF,aT,bP]at e0 e1 e2 e3 e4;obtain⟨BL,j9⟩:=ai b.length;obtain⟨LL,oQ⟩:=ai l.length;have HE:=aQ EU f9 kR j9 oQ;have hpQ:p1≠Q1/\p1≠Q2:=by omega
 have QF:B≠Q1/\B≠Q2:=by omega
 have HN:=aG hpQ QF (show w.heap.size<=Q1 by omega) (show w.heap.size<=Q2 by omega);rw[<-j9]at e0 ⊢;rw[<-oQ]at e1 ⊢;have Ku:Hid _:=ah EU;rw[<-j9,<-oQ]at Ku;have Zs:BL<=1000000:=by omega
 have HKB:=ak Ti Tg;have HT:=ah (show (bE b 0 l).length<=1000000 from ck (Nt b 0 l) (by omega));clear Ti Tg EU j9 oQ hb hl pM rG nT dt hr iA rQ oN k1 k2 o1 o2 k6 k7 k8 k9 f9 kR f0 hpQ QF hQz cV hBz Yw Yv yu mN ZD ve b1 b2 Az Tf Te tF;go_upto_region 3 with (go_at_call 156;refine Ku.out.mono ?_;rintro e w3 ⟨rfl,f3,F,⟨hF,hc⟩,qW⟩;have H3:=ak f3 hc;clear f3 hF hc qW);clear e0 e1 e2 e3 e4;have hc:=H3.l1;have d1:=hc.c1;have d3:=hc.o1.cell (show 256<286 by decide);have z3:=hc.o1.frozen 256;obtain⟨F,hF⟩:=ai (nj (bE b 0 l) 256);have vE:F<=1000000:=by rw[hF];exact ck (Nd _ _) HT.out
 rw[<-hF]at d3;have cm:=hc.o1.set (show 256<286 by decide) (F+1);have H4:=ak cm hF;clear cm hF hc;go_upto_region 4 with fail;clear d1 d3 z3;obtain⟨w4,gw⟩:∃w4,w4=w3.setCell ⟨Q1,256,none⟩ (.int .i64 ((F:Int)+1)):=⟨_,rfl⟩;rw[<-gw];have f34:Fr [Q1] w3 w4:=by rw[gw];exact (Fr.refl [Q1] w3).setCell (by simp) _
 have Z0:Fr [Q1,Q2] wo w4:=H3.o0.trans (f34.mono (by simp));have c4:Cn p1 p2 Q1 Q2 (bE b 0 l) w3:=H3.l1;have cm:=H4.o0;rw[show (Value.int .i64 ((F+1:Nat):Int)) = .int .i64 ((F:Int)+1) from rfl,<-gw]at cm;have o4:Ow w4 Q1 286 (λs=>nj (bE b 0 l) s+(if s=256 then 1 else 0)):=cm.congr λs _=>by
  by_cases e:s=256
  ·subst e;simp[H4.l1]
  ·simp[e]
 have e0:=cell_of (Z0.af HE.o2 (by simpa using HN.o1)) 0;simp only[bF,aT]at e0;rw[<-HE.o3]at e0;have H5:=aQ Z0 o4 (c4.o2.fr f34 (by simpa using (kC c4.n1.2.2.2.2))) (f34.cell c4.c1 (by simpa using c4.n1.1)) (f34.cell c4.c2 (by simpa using c4.n1.2.2.1));clear f34 Z0 c4 cm o4 gw;go_upto_if 17 with fail;go_cut [] from 17 to 23 (λwz=>Ow wz Q1 286 (nX b (bE b 0 l))/\Fr [Q1] w4 wz)
 case first=>
  by_cases h0:BL=0
  ·have q0:((BL:Int)==0)=true:=by simp[h0]
   have d1:=H5.o3;have d3:=H5.o1.cell (show 0<286 by decide);have z3:=H5.o1.frozen 0;obtain⟨G,hG⟩:=ai (nj (bE b 0 l) 0+(if 0=256 then 1 else 0));have hGb:G<=1000000:=by rw[hG];have:=Nd (bE b 0 l) 0;have:=HT.out;simp;omega
   rw[<-hG]at d3;have cm:=H5.o1.set (show 0<286 by decide) (G+1);have H6:=ak cm hG;clear cm hG;go_wp2;go_meet;refine⟨?_,(Fr.refl [Q1] w4).setCell (by simp) _⟩;have cm:=H6.o0;rw[show (Value.int .i64 ((G+1:Nat):Int)) = .int .i64 ((G:Int)+1) from rfl]at cm;refine cm.congr λs _=>?_
   unfold nX;rw[<-HE.o3];by_cases e:s=0
   ·subst e;simp[H6.l1,h0]
   ·simp[e]
  ·have q0:((BL:Int)==0)=false:=by simp only[beq_eq_false_iff_ne];omega
   go_wp2;go_meet;refine⟨H5.o1.congr λs _=>?_,.refl _ _⟩;unfold nX;rw[<-HE.o3];simp[h0]
 case rest=>
 obtain⟨o5,f5⟩:=hcut;obtain⟨w5,pg⟩:∃w5:World,w5=wc:=⟨_,rfl⟩;rw[<-pg]at o5 f5 ⊢;have hn:=H3.l1.n1;have c1:=f5.cell H5.o3 (by simpa using hn.1);have c2:=f5.cell H5.l4 (by simpa using hn.2.2.1);have Mu:Fr [Q1,Q2] wo w5:=H5.o0.trans (f5.mono (by simp));have y1:=Mu.af HKB.o0 (by simpa using⟨hn.1,hn.2.1⟩);have y2:=Mu.af HKB.l1 (by simpa using⟨hn.2.2.1,hn.2.2.2.1⟩);have z1:=aW y1 0;have z2:=aW y2 0;have O9:p1≠p2:=by have:=HP.out.1;have:=HP.out.2.1;omega
 have HF:=aQ o5 f5 y1 y2 Mu;clear o5 f5 hn pg y1 y2 Mu;go_upto_region 6 with fail;go_region;all_goals go_wp2
 obtain⟨o5,f5,y1,y2,Mu⟩:=HF.out;have hn:=H3.l1.n1;obtain⟨W,hW⟩:=ai (((w5.setCell ⟨p1,0,none⟩ (.slice (some ⟨Q1,0,none⟩) 286 286)).setCell ⟨p2,0,none⟩ (.slice (some ⟨Q2,0,none⟩) 30 30)).drew);have fW:Fr [p1,p2] w5 W:=by rw[hW];exact (((Fr.refl [p1,p2] w5).setCell (by simp) _).setCell (by simp) _).drew
 have k1:W.cell? ⟨p1,0,none⟩=some (.slice (some ⟨Q1,0,none⟩) 286 286):=by rw[hW];exact (cell_of (w:=World.drew _) ((S5 (o:=0) O9 _).trans (bI (o:=0) y1 _)) 0).trans (by simp)
 have k2:W.cell? ⟨p2,0,none⟩=some (.slice (some ⟨Q2,0,none⟩) 30 30):=by rw[hW];exact (cell_of (w:=World.drew _) (bI (o:=0) ((S5 (o:=0) (kC O9) _).trans y2) _) 0).trans (by simp)
 rw[<-hW];refine bodyPost_ret (qok (g1:=p1) (g2:=p2) (v1:=.slice (some ⟨Q1,0,none⟩) 286 286) (v2:=.slice (some ⟨Q2,0,none⟩) 30 30) rfl _ _ _ rfl rfl ?_ ?_) rfl ?_
 ·exact qhh k1
 ·exact qhh k2
 ·refine⟨Q1,Q2,rfl,o5.fr fW (by simpa using⟨kC hn.1,kC hn.2.2.1⟩),?_,?_,HN.o2,HN.l3⟩
  ·exact (H5.o2.fr f5 (by simpa using kC hn.2.2.2.2)).fr fW (by simpa using⟨kC hn.2.1,kC hn.2.2.2.1⟩)
  ·refine ((HE.o1.step Mu λx hx=>.inr ?_).step fW λx hx=>.inr ?_)
   ·have e:x=Q1\/x=Q2:=by simpa using hx
    rcases e with rfl|rfl
    ·exact HN.o2
    ·exact HN.l3
   ·have e:x=p1\/x=p2:=by simpa using hx
    have:=HP.out.1;have:=HP.out.2.1;have:=HW.l6;omega
end defl
namespace bits
open Go Go.RowKit lib bm
def qY (p:Nat) (F:LN) (w:World) (M L:Nat) (e:Ending) (w':World):Prop:=
 e = .returned (.tuple #[])/\Fr F w w'/\∃F',Wr w' p F' M L/\∀y∈F',y∈F\/w.heap.size<=y
theorem Li (p:Nat) (F:LN) (M L:Nat) (x:Nat) (n:Int) (w:World) (hW:Wr w p F M L) (hx:x<4294967296) (hL:L<=562949953421312) :
  Calls Tryz.prog 247 #[.pointer (some ⟨p,0,none⟩),.int .u32 x,.int .i64 n] w (qY p F w (M+2^L*(x%2^(min n.toNat 32))) (L+min n.toNat 32)):=
 (zhu p F M L x n w hW hx hL).mono λ_ _ h=>h
theorem qys (p:Nat) (F:LN) (M L:Nat) (x n:Int) (w:World) (hW:Wr w p F M L) (iD:0<=x) (hx:x<4294967296) (hL:L<=562949953421312) :
  Calls Tryz.prog 247 #[.pointer (some ⟨p,0,none⟩),.int .u32 x,.int .i64 n] w (qY p F w (M+2^L*(x.toNat%2^(min n.toNat 32))) (L+min n.toNat 32)):=by
 obtain⟨x,rfl⟩:=Ga iD;exact Li p F M L x n w hW (by omega) hL
theorem zi1 {w w':World} {p:Nat} {F S:LN} {M L:Nat} (h:Wr w p F M L) (hf:Fr S w w') (hn:∀x∈F,x∉S):Wr w' p F M L:=by obtain⟨v,⟨hr,aI,dV,hM⟩,rfl⟩:=h;exact⟨v,⟨hf.af hr (hn p (by simp)),dr aI hf (λk hk=>hn k (by simp[hk])),dV,hM⟩,rfl⟩
theorem zi0 {w:World} {p:Nat} {F:LN} {M L:Nat} (h:Wr w p F M L):∀x∈F,x<w.heap.size:=by
 obtain⟨v,⟨hr,aI,dV,hM⟩,rfl⟩:=h;intro x hx;rcases fP.1 hx with rfl|hx
 ·exact lt_of_block hr
 ·exact rr aI (by simpa using hx)
theorem zee (p:Nat) (F:LN) (M L:Nat) (x:Nat) (n:Int) (w:World) (hW:Wr w p F M L) (hx:x<4294967296) (hL:L<=562949953421200) :
  Calls Tryz.prog 246 #[.pointer (some ⟨p,0,none⟩),.int .u32 x,.int .i64 n] w (qY p F w (M+2^L*j2 x (min n.toNat 32) (min n.toNat 32)) (L+min n.toNat 32)):=by
 obtain⟨m,hm,B3⟩:∃m:Nat,m=min n.toNat 32/\m<=32:=⟨_,rfl,by omega⟩;have Hm:=ah hm;rw[<-hm];clear hm;go_enter Tryz.func246,Tryz.ntmps246;go_upto_region 0 with fail;go_cut [6] (λs6 wc=>s6 = .int .i64 ((m:Int)-1)/\w=wc);case first=>go_wp2;all_goals (go_meet;exact⟨int_eq (by have:=Hm.out;omega),rfl⟩)
 case rest=>
 obtain⟨rfl,rfl⟩:=hcut;have HW:=ah hW;clear hW;go_wp2;go_loopg [6] m (λk s6 wr=>∃j F',j+k=m/\s6 = .int .i64 ((k:Int)-1)/\Wr wr p F' (M+2^L*j2 x m j) (L+j)/\Fr F w wr/\∀y∈F',y∈F\/w.heap.size<=y);case atStart=>exact⟨0,F,by omega,rfl,by simpa[j2] using HW.out,Fr.refl _ _,λy hy=>.inl hy⟩
 case round=>
  obtain⟨j,F',fx,rfl,cP,dR,hF⟩:=hrel;by_cases hk:gk=0
  ·subst hk;obtain rfl:j=m:=by omega
   go_wp2;go_end0;exact⟨rfl,dR,F',cP,hF⟩
  ·obtain⟨k,rfl⟩:∃k,gk=k+1:=⟨gk-1,by omega⟩;have AB:(0:Int)<=(((k+1:Nat):Int)-1):=by omega
   have hd:x/2^k<4294967296:=Dj (Nat.div_le_self _ _) hx;have og:((x:Int)/2^k)=((x/2^k:Nat):Int):=by rw[zh,<-Ib]
   have fZ:(0:Int)<=(x:Int)/2^k:=by rw[og];exact Int.natCast_nonneg _
   have hd3:(x:Int)/2^k<4294967296:=by rw[og];omega
   have Hd1:=ah og;clear og;have E5:L+j<=562949953421312:=by omega
   go_wp2_with (go_at_call 247;refine (qys p F' _ (L+j) _ _ _ cP fZ hd3 E5).mono ?_;rintro e w' ⟨rfl,rZ,F1,bL,JZ⟩);go_roundg k;case measure=>omega
   case rel=>
    have e1:j=m-1-k:=by omega
    have jt:m-1-j=k:=by omega
    refine⟨j+1,F1,by omega,int_eq (by omega),?_,dR.step rZ hF,λy hy=>?_⟩
    ·have e3:((x:Int)/2^k).toNat=x/2^k:=by rw[Hd1.out,C9]
     have jR:Wr w' p F1 (M+2^L*j2 x m j+2^(L+j)*(x/2^k%2)) (L+j+1):=by simpa[e3] using bL
     have e2:=za0 M L x m j;rw[jt]at e2;rw[<-e2];exact jR
    ·rcases JZ y hy with h|h
     ·exact hF y h
     ·right;have:=dR.size;omega
theorem qwb (p:Nat) (F:LN) (M L:Nat) (w:World) (hW:Wr w p F M L) (hL:L<=562949953421200) :
  Calls Tryz.prog 252 #[.pointer (some ⟨p,0,none⟩)] w (qY p F w M ((L+7)/8*8)):=by
 have HW:=ah hW;obtain⟨v,⟨hr,aI,dV,hM⟩,rfl⟩:=hW;have c2:=cell_of hr 2;simp only[bF,aT,bP]at c2;clear hr aI;by_cases h0:L%8=0
 ·have h1:decide ((0:Int)<((L%8:Nat):Int))=false:=by simp;omega
  go_enter Tryz.func252,Tryz.ntmps252;go_wp2;go_end0;refine⟨rfl,Fr.refl _ _,_,?_,λy hy=>.inl hy⟩;rw[show (L+7)/8*8=L from by omega];exact HW.out
 ·have h1:decide ((0:Int)<((L%8:Nat):Int))=true:=by simp;omega
  have E5:L<=562949953421312:=by omega
  go_enter Tryz.func252,Tryz.ntmps252;go_wp2_with (go_at_call 247;refine (qys p _ M L _ _ _ HW.out (by omega) (by omega) E5).mono ?_;rintro e w' ⟨rfl,rZ,F1,bL,JZ⟩);go_end0;refine⟨rfl,rZ,F1,?_,JZ⟩;have e1:(8-(L:Int)%8).toNat=8-L%8:=by omega
  have e2:L+min (8-L%8) 32=(L+7)/8*8:=by omega
  rw[<-e2];simpa[e1] using bL
theorem VA (p:Nat) (F:LN) (M L:Nat) (ao:OA) (cap:Nat) (bs:LB) (w:World) (hW:Wr w p F M L) (hcs:Cs w ao (bs.map bv)) (cZ:bs.length<=cap) (cz:ao=none->cap=0)
  (bN:bs≠[]->∀x∈af ao,x∉F) (hL:L+8*bs.length<=562949953421200) :
  Calls Tryz.prog 251 #[.pointer (some ⟨p,0,none⟩),.slice ao bs.length cap] w (qY p F w (M+2^((L+7)/8*8)*num bs) ((L+7)/8*8+8*bs.length)):=by
 have wB:L<=562949953421200:=by omega
 have nA:=qwb p F M L w hW wB;obtain⟨q,hq,hqL⟩:∃q,(L+7)/8=q/\8*q<=L+7:=⟨_,rfl,by omega⟩;rw[hq]at nA ⊢;have Hal:=ah nA;clear nA hq;go_enter Tryz.func251,Tryz.ntmps251;go_upto_region 0 with fail;go_cut [] (λwc=>Fr F w wc/\∃F',Wr wc p F' M (q*8)/\∀y∈F',y∈F\/w.heap.size<=y);case first=>go_wp2_with (go_at_call 252;refine Hal.out.mono ?_;rintro e w' ⟨rfl,rZ,cP⟩);go_meet;exact⟨rZ,cP⟩
 case rest=>
 obtain⟨rZ,F',sP,Uq⟩:=hcut;obtain⟨v,⟨hr,aI,dV,hM⟩,rfl⟩:=sP;rw[show q*8/8=q from by omega]at aI hr;rw[show q*8%8=0 from by omega]at hr;have Ul:M<2^(8*q):=by rwa [mf]
 have JD:Cs wc ao (bs.map bv):=by
  by_cases mD:bs=[]
  ·exact .inl (by rw[mD];rfl)
  ·exact hcs.fr rZ (bN mD)
 have c0:=cell_of hr 0;have f0:=aW hr 0;simp only[bF,aT]at c0;have Hr:=ah hr;clear hr;go_wp2_with (refine gM aq rfl _ _ rfl v q _ v.ownBlock.toList rfl rfl aI ao bs.length cap (bs.map bv) rfl cZ cz JD (by simp) (j3 bs) (by omega) (by unfold maxLen;omega) ?_;intro lM fN w1 A1;have fM:=A1.fr.af Hr.out (by simpa using dV);have d1:=cell_of fM 0;have g1:=aW fM 0;simp only[bF,aT]at d1);go_end0;have cQ:(Value.slice lM (q+bs.length) fN).ownBlock≠some p:=by
  intro h;have h2:=lt_of_block Hr.out;rcases A1.at_ p (by rw[<-dD lM (q+bs.length) fN,h];simp) with h1|h1
  ·exact dV (by simpa using h1)
  ·omega
 have eG:Fr F w w1:=rZ.step A1.fr (λk hk=>Uq k (by simp[Option.mem_toList.1 hk]));refine⟨rfl,?_,_,⟨.slice lM (q+bs.length) fN,⟨?_,?_,cQ,?_⟩,rfl⟩,?_⟩
 ·exact eG.setCell (by have:=Uq p (by simp);simpa using this) _
 ·refine (bI fM _).trans ?_;have hd:=ze2 q M bs Ul;rw[show q*8+8*bs.length=8*(q+bs.length) from by omega,Nat.mul_div_cancel_left _ (by omega:0<8),Nat.mul_mod_right,show q*8=8*q from by omega,
   DY Ul,DY (by rw[Ba];exact hd)]
  rfl
 ·rw[show q*8+8*bs.length=8*(q+bs.length) from by omega,Nat.mul_div_cancel_left _ (by omega:0<8),show q*8=8*q from by omega,zge q M bs Ul,gF];exact ownsRow_setCell_other A1.own cQ _
 ·rw[show q*8=8*q from by omega];exact ze2 q M bs Ul
 ·intro y hy;rcases fP.1 hy with rfl|hy
  ·exact Uq _ (by simp)
  ·rw[dD]at hy;rcases A1.at_ y hy with h|h
   ·exact Uq y (by simp[Option.mem_toList.1 h])
   ·right;have:=rZ.size;omega
def oA (M L:Nat) (w:World) (e:Ending) (w':World):Prop:=
 ∃ao,e = .returned (.slice ao ((L+7)/8) ((L+7)/8))/\jK w' w.heap.size 5 ao ((kE ((L+7)/8) M).map bv)/\(ao=none->(L+7)/8=0)/\(∀x∈af ao,w.heap.size<=x)/\Fr [] w w'
theorem qv9 (p:Nat) (F:LN) (M L:Nat) (w:World) (hW:Wr w p F M L) (hL:L<=562949953421200) :
  Calls Tryz.prog 155 #[.pointer (some ⟨p,0,none⟩)] w (oA M L w):=by
 obtain⟨v,⟨hr,aI,dV,hM⟩,rfl⟩:=hW;obtain⟨ao,cap,rfl,cY,jD,wm⟩:=Iw aI;have hcs:=C8 aI;obtain⟨q,hq⟩:∃q,L/8=q:=⟨_,rfl⟩;rw[hq]at hr aI hcs dV cY;have hlen:((kE q M).map bv).length=q*1:=by simp[SN]
 have c0:=cell_of hr 0;have c1:=cell_of hr 1;have c2:=cell_of hr 2;simp only[bF,aT,bP]at c0 c1 c2;have Hr:=ah hr;clear hr;have Hq:=ah hq;have O3:8*q<=L:=by omega
 clear hq;go_enter Tryz.func155,Tryz.ntmps155;go_upto_region 1 with fail;go_cut [3] (λs3 wc=>∃lM fN,s3 = .slice lM q fN/\aV w wc 5 1 [] lM q fN ((kE q M).map bv));case first=>go_wp2_with (refine gM aq rfl _ _ rfl (.slice none 0 0) 0 [] [] rfl rfl (wM _ _ _ _) ao q cap _ rfl cY wm hcs hlen (j3 _) (by omega) (by unfold maxLen;omega) ?_;intro lM fN w1 A1;simp only[ft,qj]at A1);go_meet;exact⟨lM,fN,rfl,A1⟩
 case rest=>
 obtain⟨lM,fN,rfl,A1⟩:=hcut;have fM:=A1.fr.af Hr.out (by simp);have d1:=cell_of fM 1;have d2:=cell_of fM 2;simp only[bF,aT,bP]at d1 d2;have Hb1:=ah fM;clear fM;by_cases h0:L%8=0
 ·have h1:decide ((0:Int)<((L%8:Nat):Int))=false:=by simp;omega
  have hle:=A1.le;go_wp2;all_goals go_ret
  all_goals
   have e:(L+7)/8=q:=by have:=Hq.out;omega
   have hb:∀x∈af lM,w.heap.size<=x:=λx hx=>by have:=A1.at_ x hx;simp at this;omega
   unfold oA
   rw[e]
   exact⟨lM,by first|rfl|simp,Xx A1.own hb,λh=>by have:=A1.nil h;omega,hb,A1.fr⟩
 ·have h1:decide ((0:Int)<((L%8:Nat):Int))=true:=by simp;omega
  have tP:Value.int .u8 (IntKind.u8.wrap ((M/2^(8*q):Nat):Int))=bv (UInt8.ofNat (M/2^(8*q))):=qv4 _;obtain⟨W,hW⟩:∃W:Nat,W=M/2^(8*q):=⟨_,rfl⟩;rw[<-hW]at d1 tP;rw[IntKind.wrap_u8']at tP;have HW:=ah hW;have Hbv:=ah tP;clear hW tP;have hb:∀x∈af lM,w.heap.size<=x:=λx hx=>by have:=A1.at_ x hx;simp at this;omega
  have Hb:=ah hb;clear hb c1;go_upto_region 3 with fail;go_cut [3] (λs3 wz=>∃dv dA,s3 = .slice dv (q+1) dA/\wz.ownsRow 0 5 1 (.slice dv (q+1) dA) (q+1) ((kE (q+1) M).map bv)/\(∀x∈af dv,w.heap.size<=x)/\Fr [] w wz/\q+1<=dA);case first=>
   go_wp2_with (refine gM aq rfl _ _ rfl (.slice lM q fN) q _ (af lM) rfl (dD _ _ _) (A1.own.alloc _) _ 1 1 _ rfl (by decide) (by simp) (by exact nM _ _ _ _ (bC _ _)) (by rfl) (by simp[Value.oneCell']) (by omega) (by unfold maxLen;omega) ?_;intro dv dA w2 A2);go_meet;have cV:=A1.fr.size;refine⟨dv,dA,rfl,?_,λx hx=>?_,((A1.fr.alloc _).step A2.fr λx hx=>?_),A2.le⟩
   ·have h:=A2.own;rw[Hbv.out,HW.out]at h;rw[qvz,gF];exact h
   ·rcases A2.at_ x hx with h|h
    ·exact Hb.out x h
    ·simp at h;omega
   ·right;exact Hb.out x hx
  case rest=>
  obtain⟨dv,dA,rfl,wQ,kT,eG,hle⟩:=hcut;have Hb2:=ah kT;clear kT;go_wp2;all_goals go_ret
  all_goals
   have e:(L+7)/8=q+1:=by have:=Hq.out;omega
   unfold oA
   rw[e]
   refine⟨dv,by first|rfl|simp,Xx wQ Hb2.out,λh=>?_,Hb2.out,eG⟩
   rcases wQ.2 with⟨h3,_⟩|⟨g,cap,cur,h3,_⟩
   ·simp at h3
   ·subst h;simp at h3
end bits
namespace wb
open Go Go.RowKit lib bm bl
def Wb (w:World) (p:Nat) (F:LN) (l:List Bool):Prop:=bits.Wr w p F (cG l) l.length
def cX (p:Nat) (F:LN) (w:World) (l:List Bool) (e:Ending) (w':World):Prop:=
 e = .returned (.tuple #[])/\Fr F w w'/\∃F',Wb w' p F' l/\∀y∈F',y∈F\/w.heap.size<=y
theorem y7 {w w':World} {p:Nat} {F S:LN} {l:List Bool} (h:Wb w p F l) (f:Fr S w w') (hn:∀x∈F,x∉S):Wb w' p F l:=bits.zi1 h f hn
theorem KU {w:World} {p:Nat} {F:LN} {l:List Bool} (h:Wb w p F l):∀x∈F,x<w.heap.size:=bits.zi0 h
theorem UR (p:Nat) (F:LN) (l:List Bool) (x:Nat) (n:Int) (w:World) (h:Wb w p F l) (hx:x<4294967296) (hL:l.length<=562949953421312) :
  Calls Tryz.prog 247 #[.pointer (some ⟨p,0,none⟩),.int .u32 x,.int .i64 n] w (cX p F w (l++dM (min n.toNat 32) x)):=by
 have:=bits.Li p F (cG l) l.length x n w h hx hL;refine this.mono λe w' ⟨h1,h2,F',h3,h4⟩=>⟨h1,h2,F',?_,h4⟩
 unfold Wb;rw[FV,Sb,aA,ax];exact h3
theorem zis (p:Nat) (F:LN) (l:List Bool) (x:Nat) (n:Int) (w:World) (h:Wb w p F l) (hx:x<4294967296) (hL:l.length<=562949953421200) :
  Calls Tryz.prog 246 #[.pointer (some ⟨p,0,none⟩),.int .u32 x,.int .i64 n] w (cX p F w (l++msb (min n.toNat 32) x)):=by
 have:=bits.zee p F (cG l) l.length x n w h hx hL;refine this.mono λe w' ⟨h1,h2,F',h3,h4⟩=>⟨h1,h2,F',?_,h4⟩
 unfold Wb;rw[FV,zek,aA,FQ];exact h3
theorem zht (p:Nat) (F:LN) (l:List Bool) (ao:OA) (cap:Nat) (bs:LB) (w:World) (h:Wb w p F l) (hr:lib.Rd w ao cap bs) (bN:bs≠[]->∀x∈af ao,x∉F)
  (hL:l.length+8*bs.length<=562949953421200) :
  Calls Tryz.prog 251 #[.pointer (some ⟨p,0,none⟩),.slice ao bs.length cap] w (cX p F w (eX l++au bs)):=by
 have:=bits.VA p F (cG l) l.length ao cap bs w h hr.cs hr.le hr.nil bN hL;refine this.mono λe w' ⟨h1,h2,F',h3,h4⟩=>⟨h1,h2,F',?_,h4⟩
 unfold Wb;rw[FV,qv2,Lq,aA,Ly,uo];exact h3
theorem za9 (p:Nat) (F:LN) (l:List Bool) (w:World) (h:Wb w p F l) (h0:0<l.length) (hL:l.length<=562949953421200) :
  Calls Tryz.prog 155 #[.pointer (some ⟨p,0,none⟩)] w (aB w (bytesOf l)):=by
 have:=bits.qv9 p F (cG l) l.length w h hL;refine this.mono λe w' ⟨ao,h1,h2,h3,h4,h5⟩=>⟨ao,by rw[bytesOf_length];exact h1,⟨h2.cs,ay _,by rw[bytesOf_length];unfold maxLen;omega,λhn=>by rw[bytesOf_length];exact h3 hn⟩,λx hx=>⟨h4 x hx,?_⟩,h5⟩
 rcases h2 with h2|⟨g,cur,rfl,_,hg,_⟩
 ·have:=congrArg List.length h2;rw[bW,SN,kg]at this;omega
 ·simp[af]at hx;rw[hx];exact lt_of_block hg
end wb
namespace defl
open Go Go.RowKit lib bm bl wb
theorem zgt (b:Bool):dM 1 (if b then 1 else 0)=[b]:=by cases b<;>rfl
theorem Ik (p:Nat) (F:LN) (l:List Bool) (last:Bool) (kind:Nat) (w:World) (h:Wb w p F l) (hk:kind<4294967296) (hL:l.length<=562949953421000) :
  Calls Tryz.prog 243 #[.pointer (some ⟨p,0,none⟩),.bool last,.int .u32 kind] w (cX p F w (l++last::dM 2 kind)):=by
 have h1:=UR p F l (if last then 1 else 0) 1 w h (by split<;>decide) (by omega);have h2:=λw F h=>UR p F (l++[last]) kind 2 w h hk (by rw[aA,yd];omega)
 have e1:dM (min (1:Int).toNat 32) (if last then 1 else 0)=[last]:=zgt last;have e2:dM (min (2:Int).toNat 32) kind=dM 2 kind:=rfl;rw[e1]at h1;simp only[e2,eE,List.singleton_append]at h2;unfold cX at h1 h2;have H:=ah h2;clear h2 e1 e2 h;cases last with
 | true=>
  have H1:=ah h1;clear h1;go_enter Tryz.func243,Tryz.ntmps243;go_upto_region 4 with (go_at_call 247;refine H1.out.mono ?_;rintro e w1 ⟨rfl,f1,F1,W1,n1⟩);have H2:=aw f1 n1 (H.out w1 F1 W1);clear f1 n1 W1;go_wp2_with (go_at_call 247;refine H2.out.2.2.mono ?_;rintro e w2 ⟨rfl,f2,F2,W2,n2⟩);go_end0;unfold cX;exact⟨rfl,H2.out.1.step f2 (λy hy=>by rcases H2.out.2.1 y hy with k|k;exact .inl k;exact .inr k),F2,W2,λy hy=>by rcases n2 y hy with k|k;exact H2.out.2.1 y k;exact .inr (ck H2.out.1.size k)⟩
 | false=>have H1:=ah h1;clear h1;go_enter Tryz.func243,Tryz.ntmps243;go_upto_region 4 with (go_at_call 247;refine H1.out.mono ?_;rintro e w1 ⟨rfl,f1,F1,W1,n1⟩);have H2:=aw f1 n1 (H.out w1 F1 W1);clear f1 n1 W1;go_wp2_with (go_at_call 247;refine H2.out.2.2.mono ?_;rintro e w2 ⟨rfl,f2,F2,W2,n2⟩);go_end0;unfold cX;exact⟨rfl,H2.out.1.step f2 (λy hy=>by rcases H2.out.2.1 y hy with k|k;exact .inl k;exact .inr k),F2,W2,λy hy=>by rcases n2 y hy with k|k;exact H2.out.2.1 y k;exact .inr (ck H2.out.1.size k)⟩
def qe (n:Nat):List UInt8:=[UInt8.ofNat n,UInt8.ofNat (n/256),UInt8.ofNat (255-n%256),UInt8.ofNat (255-n/256%256)]
theorem AQ (x:Nat) (h:x<256):bits .xor .u8 IntKind.u8.max ((x:Nat):Int)=((255-x:Nat):Int):=by
 have h1:∀x:Fin 256,bits .xor .u8 IntKind.u8.max (x.1:Int)=((255-x.1:Nat):Int):=by decide +kernel
 exact h1 ⟨x,h⟩
theorem qyf (n c1 c2:Nat) (h:n<=65535) (h1:c1=255-n%256) (h2:c2=255-n/256%256):(qe n).map bv=[.int .u8 ((n:Int)%256),.int .u8 ((n:Int)/256),.int .u8 c1,.int .u8 c2]:=by simp only[qe,gX,qq,bv,zk];refine FE.2 ⟨int_eq (by omega),FE.2 ⟨int_eq (by omega),FE.2 ⟨int_eq (by omega),FE.2 ⟨int_eq (by omega),rfl⟩⟩⟩⟩
def aU (l:List Bool) (last:Bool) (b:LB):List Bool:=eX (l++last::dM 2 0)++au (qe b.length)++au b
theorem Lz (l:List Bool) (last:Bool) (b:LB):(aU l last b).length=(l.length+10)/8*8+32+8*b.length:=by unfold aU;rw[aA,aA,Ly,uo,uo,aA,bU,ax];show (l.length+(2+1)+7)/8*8+8*4+8*b.length=_;omega
theorem qq5 (p:Nat) (F:LN) (l:List Bool) (last:Bool) (a:OA) (cap:Nat) (b:LB) (w:World) (h:Wb w p F l) (hr:lib.Rd w a cap b) (bN:b≠[]->∀x∈af a,x∉F)
  (hL:l.length<=549755813888) (hb:b.length<=65535) :
  Calls Tryz.prog 250 #[.agg #[.slice a b.length cap],.pointer (some ⟨p,0,none⟩),.bool last] w (cX p F w (aU l last b)):=by
 obtain⟨n,hn⟩:=ai b.length;have hle:=hr.le;rw[<-hn]at hle hb ⊢;have f0:Fr [] w (w.alloc (.cells #[.slice a n cap] 238)):=(Fr.refl [] w).alloc _;have oG:(w.alloc (.cells #[.slice a n cap] 238)).heap.size=w.heap.size+1:=fD _ _;have kR:=bC w (.cells #[.slice a n cap] 238);have hh:=Ik p F l last 0 _ (y7 h f0 (by simp)) (by decide) (by omega);unfold cX at hh;have bg:=KU h;have H:=dk hh f0 kR (And.intro hr bN) hn bg oG;clear hh f0 kR hr bN hn bg oG h;go_enter Tryz.func250,Tryz.ntmps250;go_upto_region 2 with (go_at_call 243;refine H.o0.mono ?_;rintro e w1 ⟨rfl,f1,F1,W1,n1⟩);obtain⟨B,hB⟩:=ai w.heap.size;have Mr:B∉F:=λhm=>by have:=H.o5 B hm;omega
 have fM:=f1.af H.o2 (by rw[<-hB];exact Mr);rw[<-hB]at fM ⊢;have cb1:=cell_of fM 0;simp only[bF,aT]at cb1;have H1:=aQ f1 n1 W1 fM hB;clear f1 n1 W1 fM hB;obtain⟨c1,cY⟩:∃c,c=255-n%256:=⟨_,rfl⟩;obtain⟨c2,jD⟩:∃c,c=255-n/256%256:=⟨_,rfl⟩;have x1:bits .xor .u8 IntKind.u8.max ((n:Int)%256)=(c1:Int):=by have:=AQ (n%256) (by omega);rw[cY,<-this];rfl
 have x2:bits .xor .u8 IntKind.u8.max ((n:Int)/256)=(c2:Int):=by have:=AQ (n/256) (by omega);rw[jD,show n/256%256=n/256 from by omega,<-this];rfl
 have hm:=qyf n c1 c2 hb cY jD;have hr4:lib.Rd (w1.alloc (.cells #[.int .u8 ((n:Int)%256),.int .u8 ((n:Int)/256),.int .u8 c1,.int .u8 c2] 5)) (some ⟨w1.heap.size,0,none⟩) 4 (qe n):=
  ⟨by rw[hm];exact Ae w1 _ _ _,ay _,by decide,λh=>by cases h⟩
 have f2:Fr [] w1 (w1.alloc (.cells #[.int .u8 ((n:Int)%256),.int .u8 ((n:Int)/256),.int .u8 c1,.int .u8 c2] 5)):=(Fr.refl [] w1).alloc _;have hlen:(l++last::dM 2 0).length=l.length+3:=by rw[aA,bU,ax]
 have kv:=zht p F1 (l++last::dM 2 0) _ 4 (qe n) _ (y7 H1.out.2.2.1 f2 (by simp)) hr4 (λ_ x hx hm=>by have:=KU H1.out.2.2.1 x hm;simp[af]at hx;omega) (by rw[hlen];show _+8*4<=_;omega);unfold cX at kv;have H2:=aw kv f2 hlen;clear cY jD hm hr4 f2 kv hlen;go_upto_region 4 with (go_at_call 251;refine H2.o0.mono ?_;rintro e w3 ⟨rfl,f3,F3,W3,n3⟩);have Cv:Fr F w w3:=((H.o1.mono (by simp)).step H1.out.1 (λy hy=>.inl hy)).step (H2.o1.mono (T:=F1) (by simp) |>.trans f3) (λy hy=>by
  rcases H1.out.2.1 y hy with k|k
  ·exact .inl k
  ·right
   have:=H.l6
   omega)
 have Mr:B∉F1:=λhm=>by
  have k1:=H1.out.2.2.2.2;rcases H1.out.2.1 B hm with k|k
  ·have:=H.o5 B k;omega
  ·have:=H.l6;omega
 have ju:=f3.af (H2.o1.af H1.out.2.2.2.1 (by simp)) Mr;have cb3:=cell_of ju 0;simp only[bF,aT]at cb3;have YH:∀y∈F3,y∈F\/w.heap.size<=y:=λy hy=>by
  have k0:=H.l6;have k3:=H1.out.1.size;have k4:=H2.o1.size;rcases n3 y hy with k|k
  ·rcases H1.out.2.1 y k with k2|k2
   ·exact .inl k2
   ·right;omega
  ·right;omega
 have OZ:lib.Rd w3 a cap b:=Af H.o3.1 Cv H.o3.2;have kv:=zht p F3 _ a cap b w3 W3 OZ (λcQ x hx hm=>by
  rcases YH x hm with k|k
  ·exact H.o3.2 cQ x hx k
  ·have:=A7 H.o3.1 cQ x hx;omega) (by
   rw[aA,Ly,uo,H2.l2,<-H.o4]
   show (l.length+3+7)/8*8+8*4+8*n<=_
   omega)
 have hp8:eX (eX (l++last::dM 2 0)++au (qe n))++au b=aU l last b:=by rw[qyv _ (by rw[aA,Ly,uo];omega),aU,<-H.o4]
 rw[hp8,<-H.o4]at kv;unfold cX at kv;have H3:=aw kv Cv YH;clear kv Cv YH OZ hp8 f3 n3 W3 ju cb1;go_wp2_with (go_at_call 251;refine H3.o0.mono ?_;rintro e w4 ⟨rfl,f4,F4,W4,n4⟩);go_end0;unfold cX;refine⟨rfl,H3.o1.step f4 H3.l2,F4,W4,λy hy=>?_⟩;rcases n4 y hy with k|k
 ·exact H3.l2 y k
 ·exact .inr (ck H3.o1.size k)
end defl
namespace lib
open Go Go.RowKit Go.ChangeShapes Go.WideShapes
structure Rv where
 ao:Option Addr
 cap:Nat
 bs:List UInt8
def Rv.val (r:Rv):Value:=.slice r.ao r.bs.length r.cap
theorem qn1 {α:Type} {P:Nat->α->Prop}:∀(n:Nat),(∀i,i<n->∃x,P i x)->∃l:List α,l.length=n/\∀(i:Nat) (h:i<l.length),P i l[i]
 | 0,_=>⟨[],rfl,λi h=>by cases h⟩
 | n+1,h=>by
  obtain⟨l,h1,h2⟩:=qn1 n λi hi=>h i (by omega)
  obtain⟨x,hx⟩:=h n (by omega);refine⟨l++[x],by simp[h1],λi hi=>?_⟩;by_cases hl:i<l.length
  ·rw[List.getElem_append_left hl];exact h2 i hl
  ·simp at hi;obtain rfl:i=l.length:=by omega
   simp;rw[h1];exact hx
end lib
namespace defl
open Go Go.RowKit lib bm bl wb
def lz (r:Rv):Value:=.iface 238 (.agg #[.slice r.ao r.bs.length r.cap])
def aN (l:List Bool):List (List UInt8)->List Bool
 | []=>l
 | b::t=>aN (aU l (t.isEmpty) b) t
theorem qlo:∀(t:List (List UInt8)) (l:List Bool),l.length<=(aN l t).length
 | [],_=>ay _
 | b::t,l=>by have:=qlo t (aU l t.isEmpty b);rw[Lz]at this;rw[aN];omega
theorem qpt (t:List (List UInt8)) (l:List Bool) (h:0<t.length):0<(aN l t).length:=by
 cases t with
 | nil=>simp at h
 | cons b t=>have:=qlo t (aU l t.isEmpty b);rw[Lz]at this;rw[aN];omega
theorem zev (w:World):Wb (w.alloc (.cells #[.slice none 0 0,.int .u64 0,.int .i64 0] 245)) w.heap.size [w.heap.size] []:=
 ⟨.slice none 0 0,⟨bC w _,wM _ _ _ _,by simp[Value.ownBlock],by decide⟩,rfl⟩
theorem qoh (a:OA) (cap:Nat) (rows:List Rv) (w:World) (hcs:Cs w a (rows.map lz)) (hle:rows.length<=cap) (cZ:cap<=maxLen)
  (eF:∀r∈rows,lib.Rd w r.ao r.cap r.bs/\r.bs.length<=65535) (h0:0<rows.length) (hn:rows.length<=100000) :
  Calls Tryz.prog 128 #[.slice a rows.length cap] w (aB w (bytesOf (aN [] (rows.map Rv.bs)))):=by
 obtain⟨n,qI⟩:=ai rows.length;rw[<-qI]at hle h0 hn ⊢;unfold maxLen at cZ;obtain⟨g0,o0,rfl,hc⟩:=hcs.at (by rw[bW];omega);have H:=aw hc eF qI;clear hc eF qI hcs;go_enter Tryz.func128,Tryz.ntmps128;go_upto_block 0 with fail;obtain⟨p,hp⟩:=ai w.heap.size;have w0:=zev w;have f0:Fr [] w (w.alloc (.cells #[.slice none 0 0,.int .u64 0,.int .i64 0] 245)):=(Fr.refl [] w).alloc _;rw[<-hp]at w0 ⊢;have H0:=aw w0 f0 hp;clear w0 f0 hp;go_wp2;go_loopg [4,5,6,7,10] n (λk s4 s5 s6 s7 s10 wr=>∃(i:Nat) (F:LN) (l:List Bool),s10 = .int .i64 (i:Nat)/\i+k=n/\Wb wr p F l/\Fr [] w wr/\(∀x∈F,w.heap.size<=x)/\l.length<=i*524360/\aN l ((rows.drop i).map Rv.bs)=aN [] (rows.map Rv.bs));case atStart=>exact⟨0,[p],[],rfl,by omega,H0.o0,H0.o1,λx hx=>by simp at hx;rw[hx,H0.l2];exact ay _,ay _,rfl⟩
 case round=>
  obtain⟨i,F,l,rfl,bX,hW,hf,hF,hl,aD⟩:=hrel;by_cases hi:i<n
  ·obtain⟨k,rfl⟩:∃k,gk=k+1:=⟨gk-1,by omega⟩;have Ma:i<rows.length:=by rw[<-H.out.2.2];exact hi
   have rW:=hf.cell (H.out.1 i (lz rows[i]) (by rw[iM,br Ma];rfl)) (by simp);obtain⟨di,hlen⟩:=H.out.2.1 rows[i] (tk Ma);unfold lz at rW;have hdr:(rows.drop i).map Rv.bs=rows[i].bs::(rows.drop (i+1)).map Rv.bs:=by rw[Al Ma,gX]
   rw[hdr,aN]at aD;obtain⟨b,hb⟩:=ai (rows[i].bs);obtain⟨ba,Zt⟩:∃b,b=rows[i].ao:=⟨_,rfl⟩;obtain⟨bc,zL⟩:∃b,b=rows[i].cap:=⟨_,rfl⟩;obtain⟨bn,xB⟩:∃n,n=b.length:=⟨_,rfl⟩;rw[<-hb]at rW di hlen aD;rw[<-Zt,<-zL,<-xB]at rW;rw[<-Zt,<-zL]at di;rw[<-xB]at hlen;have HR:=aw di xB aD;have HW:=aG hW hf hF hl;clear di xB aD hW hf hF hl hdr hb Zt zL;have d1:decide ((65535:Int)<bn)=false:=by simp;omega
   have yp:∀w:World,(Instr.typeAssert (.iface 238 (.agg #[.slice ba bn bc])) 247 238 true).run Tryz.prog w = .ok (.tuple #[.agg #[.slice ba bn bc],.bool true]) w:=λ_=>by kernel_rfl
   have Gy:∀(f:Nat) (w:World),(method (f+1) 238 (.agg #[.slice ba bn bc]) "stemma/deflate.write").run Tryz.prog w = .ok (250,.agg #[.slice ba bn bc]) w:=λ_ _=>by kernel_rfl
   have PG:((i:Int)==(n:Int)-1)=((rows.drop (i+1)).map Rv.bs).isEmpty:=by rw[Bool.eq_iff_iff,List.isEmpty_iff];simp only[beq_iff_eq,List.map_eq_nil_iff,List.drop_eq_nil_iff,<-H.l2];omega
   obtain⟨lst,Jp⟩:∃b,b=((rows.drop (i+1)).map Rv.bs).isEmpty:=⟨_,rfl⟩;rw[<-Jp]at PG;have f1:Fr [] wr (wr.alloc (.cells #[.slice ba bn bc] 238)):=(Fr.refl [] wr).alloc _;have jr:(wr.alloc (.cells #[.slice ba bn bc] 238)).heap.size=wr.heap.size+1:=fD _ _;have LX:=qq5 p F l lst ba bc b _ (y7 HW.o0 f1 (by simp)) ((HR.o0.fr HW.o1).fr f1) (λcQ x hx hm=>by have:=A7 HR.o0 cQ x hx;have:=HW.o2 x hm;omega) (by have:=HW.l3;omega) (by rw[<-HR.o1];exact hlen);rw[<-HR.o1]at LX;unfold cX at LX;have HS:=aG LX f1 jr Jp;clear LX f1 jr Jp;go_wp2_with (go_at_call 250;refine HS.o0.mono ?_;rintro e w2 ⟨rfl,f2,F2,W2,n2⟩;have H2:=aw f2 W2 n2;clear f2 W2 n2);go_roundg k;case measure=>omega
   case rel=>
    have k1:=HW.o1.size;have k2:=HS.o2;refine⟨i+1,F2,aU l lst b,by go_num,by omega,H2.out.2.1,(HW.o1.trans HS.o1).step H2.out.1 (λy hy=>.inr (HW.o2 y hy)),λy hy=>?_,?_,?_⟩
    ·rcases H2.out.2.2 y hy with h|h
     ·exact HW.o2 y h
     ·omega
    ·rw[Lz,<-HR.o1];have:=HW.l3;omega
    ·rw[HS.l3];exact HR.l2
  ·obtain rfl:i=n:=by omega
   have hdn:rows.drop i=[]:=Dh (by rw[<-H.l2];exact ay _);rw[hdn]at aD;have kA:=za9 p F l wr hW (by
    have:0<l.length:=by
     rw[<-show aN l (List.map Rv.bs [])=l from rfl,aD]
     exact qpt _ _ (by rw[bW,<-H.l2];exact h0)
    exact this) (by omega)
   have e:bytesOf l=bytesOf (aN [] (rows.map Rv.bs)):=by rw[<-aD];rfl
   rw[e]at kA;unfold aB at kA;have HB:=ak kA hf;clear kA hW hf hF hl aD hdn e;go_wp2_with (go_at_call 155;refine HB.o0.mono ?_;rintro e w2 ⟨a2,rfl,r2,n2,f2⟩);go_ret;unfold aB;exact⟨a2,rfl,r2,λx hx=>⟨ck HB.l1.size (n2 x hx).1,(n2 x hx).2⟩,HB.l1.trans f2⟩
def chunks:Nat->List UInt8->List (List UInt8)
 | 0,b=>[b]
 | f+1,b=>if 65535<b.length then b.take 65535::chunks f (b.drop 65535) else [b]
theorem qsh {f:Nat} {b:LB} (h:b.length<=65535):chunks f b=[b]:=by
 cases f with
 | zero=>rfl
 | succ f=>rw[chunks,if_neg (by omega)]
def gY (b:LB):List Bool:=aN [] (chunks b.length b)
def aR (b:LB):List UInt8:=bytesOf (gY b)
theorem yT:az Tryz.prog 201 247 .nilIface 1 16:=az.of Tryz.underlying201 (by kernel_rfl) rfl (by decide)
structure Pl (w wr:World) (rows:List Rv) (ao:OA) (c:Nat):Prop where
 own:wr.ownsRow 0 247 1 (.slice ao rows.length c) rows.length (rows.map lz)
 fr:Fr [] w wr
 new:∀x∈af ao,w.heap.size<=x
 row:∀r∈rows,lib.Rd w r.ao r.cap r.bs/\r.bs.length<=65535
theorem Pl.push {w wr w2:World} {rows:List Rv} {ao a2:OA} {c c2 n:Nat} (h:Pl w wr rows ao c) (r:Rv) (o:Obj) (hn:rows.length=n) (hr:lib.Rd w r.ao r.cap r.bs/\r.bs.length<=65535)
  (A:aV (wr.alloc o) w2 247 1 (af ao) a2 (n+1) c2 (rows.map lz++[lz r])):Pl w w2 (rows++[r]) a2 c2:=by
 have f1:Fr [] wr (wr.alloc o):=(Fr.refl [] wr).alloc o;refine⟨by rw[aA,yd,gF,hn];exact A.own,(h.fr.trans f1).step A.fr λy hy=>.inr (h.new y hy),λy hy=>?_,λx hx=>?_⟩
 ·rcases A.at_ y hy with k|k
  ·exact h.new y k
  ·have:=h.fr.size;rw[fD]at k;omega
 ·rcases jw.1 hx with k|k
  ·exact h.row x k
  ·rw[iH.1 k];exact hr
theorem zcc {m n rl t n2 r2:Nat} (h:n*m+rl=t) (hb:m<=rl) (h1:n2=n+1) (h2:r2=rl-m):n2*m+r2=t:=by subst h1 h2;rw[Nat.succ_mul];omega
theorem qrh (a:OA) (cap:Nat) (b:LB) (w:World) (h:lib.Rd w a cap b) (hlen:b.length<=1000000) :
  Calls Tryz.prog 125 #[.slice a b.length cap] w (aB w (aR b)):=by
 have H:=ah h;clear h;go_enter Tryz.func125,Tryz.ntmps125;go_upto_block 0 with fail;go_wp2;go_loopg [0,3] b.length (λk s0 s3 wr=>∃(a0 ao:OA) (c0 c rl n:Nat) (rem:LB) (rows:List Rv),s0 = .slice a0 rl c0/\s3 = .slice ao n c/\rl=rem.length/\n=rows.length/\lib.Rd w a0 c0 rem/\Pl w wr rows ao c/\rem.length<=k/\rows.map Rv.bs++chunks k rem=chunks b.length b/\rows.length*65535+rem.length=b.length);case atStart=>exact⟨a,none,cap,0,b.length,0,b,[],rfl,rfl,rfl,rfl,H.out,⟨wM _ _ _ _,Fr.refl _ _,by simp[af],by simp⟩,ay _,rfl,by simp⟩
 case round=>
  obtain⟨a0,ao,c0,c,rl,n,rem,rows,rfl,rfl,rB,hn,di,hp,hk,dt,Ev⟩:=hrel;have hle:=di.le;rw[<-rB]at hle hk Ev;rw[<-hn]at Ev;have HP:=aQ di hp rB hn dt;obtain⟨_,_,mA,o1,o2,o3⟩:=Iw hp.own;simp only[mV]at mA;obtain⟨rfl,_,rfl⟩:=mA;rw[<-hn]at o1;clear di hp rB hn dt;by_cases mE:65535<rl
  ·have d1:decide ((65535:Int)<rl)=true:=by simp;omega
   obtain⟨k,rfl⟩:∃k,gk=k+1:=⟨gk-1,by omega⟩;obtain⟨m,hm⟩:∃m:Nat,m=65535:=⟨_,rfl⟩;have hsl:=λw=>FZ bits.aq 65535 a0 rl c0 65535 rfl (by omega) w
   have zv:=λw=>Lx bits.aq 65535 a0 rl c0 65535 rfl (by omega) hle w
   obtain⟨rs,yq⟩:∃rs:Rv,rs=⟨a0,c0,rem.take 65535⟩:=⟨_,rfl⟩;have BN:lz rs = .iface 238 (.agg #[.slice a0 65535 c0]):=by rw[yq,lz];simp only[dU];rw[<-HP.o2,uP (by omega)]
   have ku:lib.Rd w rs.ao rs.cap rs.bs/\rs.bs.length<=65535:=by rw[yq];exact⟨HP.o0.take 65535,by simp only[dU];omega⟩
   have HR:=aw BN ku yq;clear BN ku yq hm;go_wp2_with (refine gM yT rfl _ _ rfl (.slice ao n c) n (rows.map lz) (af ao) rfl (dD _ _ _) (by rw[HP.o3];exact HP.o1.own.alloc _) (some ⟨wr.heap.size,0,none⟩) 1 1 [lz rs] rfl (by omega) (by simp) (by rw[HR.o0];exact Ae wr _ _ _) rfl (by simp[lz,Value.oneCell']) (by omega) (by unfold maxLen;omega) ?_;intro a2 c2 w6 A2;have HA:=ah A2;clear A2);go_roundg k;case measure=>omega
   case rel=>refine⟨_,a2,_,c2,rl-65535,n+1,rem.drop 65535,rows++[rs],rfl,rfl,by rw[eV,HP.o2],by rw[aA,HP.o3];rfl,HP.o0.drop 65535 (by rw[<-HP.o2];omega),HP.o1.push rs _ HP.o3.symm HR.o1 HA.out,by rw[eV,<-HP.o2];omega,?_,zcc Ev (by omega) (by rw[aA,<-HP.o3,yd]) (by rw[eV,<-HP.o2])⟩;have h1:=HP.l4;rw[chunks,if_pos (by rw[<-HP.o2];exact mE)]at h1;rw[gF,eE,<-h1,HR.l2];rfl
  ·have d1:decide ((65535:Int)<rl)=false:=by simp;omega
   obtain⟨rs,yq⟩:∃rs:Rv,rs=⟨a0,c0,rem⟩:=⟨_,rfl⟩;have BN:lz rs = .iface 238 (.agg #[.slice a0 rl c0]):=by rw[yq,lz,HP.o2]
   have ku:lib.Rd w rs.ao rs.cap rs.bs/\rs.bs.length<=65535:=by rw[yq];exact⟨HP.o0,by rw[<-HP.o2];omega⟩
   have dt:(rows++[rs]).map Rv.bs=chunks b.length b:=by have h1:=HP.l4;rw[qsh (by rw[<-HP.o2];omega)]at h1;rw[gF,<-h1,yq];rfl
   have HR:=aw BN ku dt;clear BN ku yq dt;go_wp2_with ((refine gM yT rfl _ _ rfl (.slice ao n c) n (rows.map lz) (af ao) rfl (dD _ _ _) (by rw[HP.o3];exact HP.o1.own.alloc _) (some ⟨wr.heap.size,0,none⟩) 1 1 [lz rs] rfl (by omega) (by simp) (by rw[HR.o0];exact Ae wr _ _ _) rfl (by simp[lz,Value.oneCell']) (by omega) (by unfold maxLen;omega) ?_;intro a2 c2 w6 A2;have mQ:=ah (HP.o1.push rs _ HP.o3.symm HR.o1 A2);have o21:=A2.le;have o22:=A2.max;clear A2));have pb:Calls Tryz.prog 128 #[.slice a2 (n+1) c2] w6 (aB w6 (aR b)):=by have h:=qoh a2 c2 (rows++[rs]) w6 (y9 mQ.out.own) (by rw[aA,<-HP.o3];exact o21) o22 (λr hr=>⟨((mQ.out.row r hr).1).fr mQ.out.fr,(mQ.out.row r hr).2⟩) (by rw[aA,yd];omega) (by rw[aA,<-HP.o3,yd];omega);rw[HR.l2,aA,<-HP.o3]at h;exact h
   unfold aB at pb;refine pb.mono ?_;rintro e w7 ⟨a7,rfl,r7,n7,f7⟩;go_wp2;go_ret;unfold aB;exact⟨a7,rfl,r7,λx hx=>⟨ck mQ.out.fr.size (n7 x hx).1,(n7 x hx).2⟩,mQ.out.fr.trans f7⟩
theorem zcr (a:OA) (cap:Nat) (b:LB) (level:Int) (w:World) (h:lib.Rd w a cap b) (hlen:b.length<=1000000) (hl:level<=0) :
  Calls Tryz.prog 103 #[.slice a b.length cap,.int .i64 level] w (aB w (aR b)):=by
 have hp:=qrh a cap b w h hlen;unfold aB at hp;have H:=ah hp;have d0:decide (level<=0)=true:=by simpa using hl
 clear hp h;go_enter Tryz.func103,Tryz.ntmps103;go_wp2_with (go_at_call 125;refine H.out.mono ?_;rintro e w1 ⟨a1,rfl,r1,n1,f1⟩);go_ret;unfold aB;exact⟨a1,rfl,r1,n1,f1⟩
def oT (level:Int):UInt8:=if level<=0 then 1 else if level=1 then 94 else 156
def aE (level:Int) (r b:LB):List UInt8:=[120,oT level]++r++sums.fX (sums.fV b)
theorem zfi (a:OA) (cap:Nat) (b:LB) (Qr:List UInt8->Prop) (level:Int) (w:World) (h:lib.Rd w a cap b) (rB:∀r,Qr r->r.length<=100000000)
  (kv:∀w',Fr [] w w'->Calls Tryz.prog 103 #[.slice a b.length cap,.int .i64 level] w' λe Fs=>∃r,Qr r/\aB w' r e Fs) :
  Calls Tryz.prog 67 #[.slice a b.length cap,.int .i64 level] w λe w'=>∃r,Qr r/\aB w (aE level r b) e w':=by
 obtain⟨Q,hQ⟩:=ai w.heap.size;have f0:Fr [] w (w.alloc (.cells #[.int .u8 120,.int .u8 156] 5)):=(Fr.refl [] w).alloc _;have wu:(w.alloc (.cells #[.int .u8 120,.int .u8 156] 5)).heap[Q]?=some (.cells #[.int .u8 120,.int .u8 156] 5 (0,0)):=by rw[hQ];exact bC w _
 have c1:=cell_of wu 1;have z1:=aW wu 1;simp only[bF,aT,bP]at c1;have H:=aQ h kv hQ f0 wu;clear h kv f0 wu;go_enter Tryz.func67,Tryz.ntmps67;go_upto_block 0 with fail;rw[<-hQ];generalize (w.alloc (.cells #[.int .u8 120,.int .u8 156] 5))=w0 at *;clear hQ;go_cut [] from 8 to 18 (λwz=>wz.heap[Q]?=some (.cells #[.int .u8 120,bv (oT level)] 5 (0,0))/\Fr [] w wz)
 case first=>
  by_cases hl:level<=0
  ·have d0:decide (level<=0)=true:=by simpa using hl
   have hz:oT level=1:=if_pos hl;have HZ:=ah hz;clear hz;go_wp2;go_meet;rw[HZ.out];exact⟨bI (o:=1) H.l4 _,H.o3.setCell (by right;show w.heap.size<=Q;rw[H.o2];exact ay _) _⟩
  ·have d0:decide (level<=0)=false:=by simp;omega
   by_cases h1:level=1
   ·subst h1;go_wp2;go_meet;exact⟨bI (o:=1) H.l4 _,H.o3.setCell (by right;show w.heap.size<=Q;rw[H.o2];exact ay _) _⟩
   ·have d1:(level==1)=false:=by simpa using h1
    have hz:oT level=156:=by unfold oT;rw[if_neg hl,if_neg h1]
    have HZ:=ah hz;clear hz;go_wp2;go_meet;rw[HZ.out];exact⟨H.l4,H.o3⟩
 case rest=>
 obtain⟨tQ,Du⟩:=hcut;obtain⟨w1,rfl⟩:∃w1:World,w1=wc:=⟨_,rfl⟩;have hr:=H.o1 w1 Du;unfold aB at hr;have H1:=aw tQ Du hr;have HRL:=ah rB;clear tQ Du hr c1 z1 rB;go_upto_region 7 with (first|(go_at_call 103;refine H1.l2.mono ?_;rintro e w2 ⟨r,hq,a2,he,r2,n2,f2⟩;obtain⟨L,hL⟩:∃L,L=r.length:=⟨_,rfl⟩;rw[<-hL]at he r2;subst he;have rB:=HRL.out r hq;rw[<-hL]at rB;have HL:=ah hL;have HQ:=ah hq;clear hL hq;have H2:=aw r2 n2 f2;clear r2 n2 f2)|(refine Bn bits.aq rfl _ _ rfl (some ⟨Q,0,none⟩) 2 2 [.int .u8 120,bv (oT level)] rfl (.inr ⟨Q,0,_,rfl,H2.l2.af H1.o0 (by simp),ay _,by decide,ay _,rfl⟩) rfl a2 L L (r.map bv) rfl (ay _) H2.o0.nil H2.o0.cs (by rw[bW,HL.out]) (bits.j3 _) (by omega) (by unfold maxLen;omega) ?_;intro a3 c3 w3 A3;have H3:=ah A3;clear A3));have Z9:Fr [] w w3:=(H1.o1.trans H2.l2).step H3.out.fr (λy hy=>.inr (by simp[af]at hy;rw[hy,H.o2];exact ay _));have Uj:Q<w1.heap.size:=lt_of_block H1.o0;have n3:∀x∈af a3,w.heap.size<=x:=λx hx=>by
  have h1:=H2.l2.size;have h2:=H.o2;rcases H3.out.at_ x hx with k|k
  ·simp[af]at k;omega
  ·omega
 have had:=sums.qsr a cap b w3 (H.o0.fr Z9);have Dx:=sums.Vm (sums.fV b) (sums.Np b);have mz:=sums.Np b;obtain⟨x,hx⟩:=ai (sums.fV b);rw[<-hx]at had Dx mz;have H4:=aQ Z9 n3 had Dx hx;clear Z9 n3 had Dx Uj hx;go_upto_region 8 with (go_at_call 104;refine H4.o2.mono ?_;rintro e w4 ⟨rfl,f4⟩);have f5:Fr [] w4 (w4.alloc (.cells #[.int .u8 ((x:Int)/16777216),.int .u8 ((x:Int)/65536%256),.int .u8 ((x:Int)/256%256),.int .u8 ((x:Int)%256)] 5)):=(Fr.refl [] w4).alloc _;have o5:=(H3.out.own.fr f4 (by simp)).fr f5 (by simp);have H5:=aw f5 o5 f4;clear f5 o5 f4;have wm:=H5.o1.shape;have Zr:2+L<=c3:=by have:=wm.1;simp only[aA,bU,kg,bW]at this;rw[HL.out];omega
 obtain⟨N,hN⟩:=ai (2+L+4);clear wm;go_upto_region 9 with (refine Bn bits.aq rfl _ _ rfl a3 (2+L) c3 ([.int .u8 120,bv (oT level)]++r.map bv) rfl H5.o1 (by simp only[aA,bU,kg,bW];rw[HL.out]) (some ⟨w4.heap.size,0,none⟩) 4 4 ((sums.fX x).map bv) rfl (by omega) (by simp) (by rw[H4.o3];exact Ae w4 _ _ _) rfl (bits.j3 _) (by omega) (by unfold maxLen;omega) ?_;intro a6 c6 w6 A6;have H6:=ah A6;clear A6);rw[<-hN];have v7:(aE level r b).map bv=[.int .u8 120,bv (oT level)]++r.map bv++(sums.fX x).map bv:=by unfold aE;rw[gF,gF,<-H4.l4];rfl
 have LH:(aE level r b).length=N:=by unfold aE;rw[aA,aA,<-HL.out,hN];rfl
 have ho:=H6.out.own;rw[<-v7]at ho;obtain⟨s1,s2,s3⟩:=ho.shape;rw[bW,LH]at s1;have hsl:=λw=>Xy bits.aq N a6 c6 s1 w
 have HZ:=ak ho LH;clear ho LH v7 hN;go_wp2;go_ret;unfold aB;have XY:w4.heap.size<=w6.heap.size:=ck H5.o0.size H6.out.fr.size;refine⟨r,HQ.out,?_⟩;rw[HZ.out.2];refine⟨a6,rfl,⟨HZ.out.1.cs,by rw[HZ.out.2];exact ay _,ck s1 s2,λh=>by have:=s3 h;omega⟩,λy hy=>⟨?_,HZ.out.1.lt y hy⟩,(H4.o0.trans H5.l2).step (H5.o0.mono (T:=af a3) (by simp) |>.trans (H6.out.fr)) (λy hy=>.inr (H4.o1 y hy))⟩;have k0:=H4.o0.size;have k1:=H5.l2.size;have k2:=H5.o0.size;rcases H6.out.at_ y hy with k|k
 ·exact H4.o1 y k
 ·omega
end defl

end Go.Proofs.YtkmpfgpfbmeihaaGreatDoor