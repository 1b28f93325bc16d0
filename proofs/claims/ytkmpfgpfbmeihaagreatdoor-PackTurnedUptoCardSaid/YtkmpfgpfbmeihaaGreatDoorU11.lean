/-
  Texts of this proof, one behind the other: TokBits, CutRuns.
-/
import Derived.Test.YtkmpfgpfbmeihaaGreatDoorU10
set_option maxHeartbeats 16000000
set_option maxRecDepth 100000
set_option linter.unusedVariables false
set_option linter.unusedSimpArgs false
namespace Go.Proofs.YtkmpfgpfbmeihaaGreatDoor
namespace defl
open Go Go.RowKit lib bm bl mat huf wb
def kA (ls:List Nat) (s:Nat):List Bool:=msb (ai ls s) (df ls s)
def lz (ll dl:List Nat):Tok->List Bool
 | .lit c=>kA ll c.toNat
 | .mat n d=>kA ll (eU n).1++fD (eU n).2.2 (eU n).2.1++kA dl (eI d).1++fD (eI d).2.2 (eI d).2.1
def iP (ll dl:List Nat) (t:List Tok):List Bool:=t.flatMap (lz ll dl)
theorem RG (ll dl:List Nat) (t:List Tok) (x:Tok):iP ll dl (t++[x])=iP ll dl t++lz ll dl x:=by simp[iP]
theorem Am (ls:List Nat) (hle:∀l∈ls,l<=15) (s:Nat):(kA ls s).length<=15:=by
 unfold kA;rw[KI];unfold ai;cases h:ls[s]? with
 | none=>simp
 | some x=>simpa[h] using hle x (iC h)
theorem Vu (ll dl:List Nat) (h1:∀l∈ll,l<=15) (h2:∀l∈dl,l<=15) (x:Tok) (hx:∀n d,x = .mat n d->3<=n/\n<=258/\1<=d/\d<=32768):(lz ll dl x).length<=48:=by
 cases x with
 | lit c=>have:=Am ll h1 c.toNat;simp only[lz];omega
 | mat n d=>obtain⟨a,b,c,e⟩:=hx n d rfl;have k1:=Am ll h1 (eU n).1;have k2:=Am dl h2 (eI d).1;have k3:=(UM a b).2.2.1;have k4:=(UG c e).2.1;simp only[lz,aK,aH];omega
def Zl (w:World) (g:Nat) (xs:List Nat):Prop:=Cs w (some ⟨g,0,none⟩) (xs.map λx=>.int .u32 (x:Nat))
theorem VE {ls:List Nat} {s:Nat} (h:s<ls.length):(cV ls)[s]?=some (df ls s):=by simp[cV,h]
theorem qy2 (ls:List Nat) (s:Nat) (hle:∀l∈ls,l<=15) (hw:weight ls<=32768):df ls s<32768:=by
 unfold df;split
 ·decide
 ·rename_i h;have h1:=zeh ls s hle hw (by omega);have h2:ai ls s<=15:=hle _ (KE (Fi (by omega)));exact eT h1 (kr (by decide) h2)
structure Env (p q4 q6 q3 q8 g1 g2:Nat) (a1 a2:Option Addr) (c1 c2 n1 n2:Nat) (ll dl:List Nat) (w:World):Prop where
 c4:w.cell? ⟨q4,0,none⟩=some (.pointer (some ⟨p,0,none⟩))
 c6:w.cell? ⟨q6,0,none⟩=some (.slice (some ⟨g1,0,none⟩) n1 n1)
 c32:w.cell? ⟨q3,2,none⟩=some (.slice a1 n1 c1)
 c33:w.cell? ⟨q3,3,none⟩=some (.slice a2 n2 c2)
 c8:w.cell? ⟨q8,0,none⟩=some (.slice (some ⟨g2,0,none⟩) n2 n2)
 u1:Zl w g1 (cV ll)
 u2:Zl w g2 (cV dl)
 r1:Ri w a1 c1 ll
 r2:Ri w a2 c2 dl
 l1:n1=ll.length
 l2:n2=dl.length
def vt (q4 q6 q3 q8 g1 g2:Nat) (a1 a2:Option Addr):List Nat:=[q4,q6,q3,q8,g1,g2]++ae a1++ae a2
theorem Cp {S:List Nat} {w w':World} {a:Option Addr} {cap:Nat} {xs:List Nat} (h:Ri w a cap xs) (f:Fr S w w') (hn:∀x∈ae a,x∉S):Ri w' a cap xs:=⟨h.cs.fr f hn,h.le,h.max,h.nil⟩
theorem Env.fr {p q4 q6 q3 q8 g1 g2:Nat} {a1 a2:Option Addr} {c1 c2 n1 n2:Nat} {ll dl:List Nat} {w w':World} {S:List Nat} (h:Env p q4 q6 q3 q8 g1 g2 a1 a2 c1 c2 n1 n2 ll dl w) (f:Fr S w w')
  (hn:∀x∈vt q4 q6 q3 q8 g1 g2 a1 a2,x∉S):Env p q4 q6 q3 q8 g1 g2 a1 a2 c1 c2 n1 n2 ll dl w':=by
 have k:∀x,x∈[q4,q6,q3,q8,g1,g2]->x∉S:=λx hx=>hn x (by simp only[vt,jy];exact .inl (.inl hx))
 exact⟨f.cell h.c4 (k q4 (by simp)),f.cell h.c6 (k q6 (by simp)),f.cell h.c32 (k q3 (by simp)),f.cell h.c33 (k q3 (by simp)),f.cell h.c8 (k q8 (by simp)),
  Cs.fr h.u1 f (by simpa[ae] using k g1 (by simp)),Cs.fr h.u2 f (by simpa[ae] using k g2 (by simp)),
  Cp h.r1 f (λx hx=>hn x (by simp only[vt,jy];exact .inl (.inr hx))),Cp h.r2 f (λx hx=>hn x (by simp only[vt,jy];exact .inr hx)),h.l1,h.l2⟩
theorem Env.GU {p q4 q6 q3 q8 g1 g2:Nat} {a1 a2:Option Addr} {c1 c2 n1 n2:Nat} {ll dl:List Nat} {w:World} (h:Env p q4 q6 q3 q8 g1 g2 a1 a2 c1 c2 n1 n2 ll dl w) {s:Nat} (hs:s<n1) :
  ∃g o,a1=some ⟨g,o,none⟩/\w.cell? ⟨g,o+s,none⟩=some (.int .i64 (ai ll s:Nat))/\w.cell? ⟨g1,s,none⟩=some (.int .u32 (df ll s:Nat)):=by
 have hl:s<ll.length:=by rw[<-h.l1];exact hs
 obtain⟨g,o,e,hc⟩:=h.r1.at hl;refine⟨g,o,e,by rw[hc,ai,bO hl];rfl,?_⟩;obtain⟨g',o',e',Jh⟩:=h.u1.at (by simp[cV];omega);simp only[eS,qU,and_true]at e';obtain⟨rfl,rfl⟩:=e';have:=Jh s (.int .u32 (df ll s:Nat)) (by rw[j5,VE hl];rfl);simpa using this
theorem Env.TB {p q4 q6 q3 q8 g1 g2:Nat} {a1 a2:Option Addr} {c1 c2 n1 n2:Nat} {ll dl:List Nat} {w:World} (h:Env p q4 q6 q3 q8 g1 g2 a1 a2 c1 c2 n1 n2 ll dl w) {s:Nat} (hs:s<n2) :
  ∃g o,a2=some ⟨g,o,none⟩/\w.cell? ⟨g,o+s,none⟩=some (.int .i64 (ai dl s:Nat))/\w.cell? ⟨g2,s,none⟩=some (.int .u32 (df dl s:Nat)):=by
 have hl:s<dl.length:=by rw[<-h.l2];exact hs
 obtain⟨g,o,e,hc⟩:=h.r2.at hl;refine⟨g,o,e,by rw[hc,ai,bO hl];rfl,?_⟩;obtain⟨g',o',e',Jh⟩:=h.u2.at (by simp[cV];omega);simp only[eS,qU,and_true]at e';obtain⟨rfl,rfl⟩:=e';have:=Jh s (.int .u32 (df dl s:Nat)) (by rw[j5,VE hl];rfl);simpa using this
theorem L7 (p:Nat) (F:List Nat) (l:List Bool) (ls:List Nat) (s:Nat) (w:World) (h:Wb w p F l) (hle:∀l∈ls,l<=15) (hw:weight ls<=32768) (hL:l.length<=562949953421200) :
  Calls Tryz.prog 246 #[.pointer (some ⟨p,0,none⟩),.int .u32 (df ls s:Nat),.int .i64 (ai ls s:Nat)] w (cJ p F w (l++kA ls s)):=by
 have h1:=zfp p F l (df ls s) (ai ls s:Nat) w h (by have:=qy2 ls s hle hw;omega) hL;have h2:=Am ls hle s;unfold kA at h2 ⊢;rw[KI]at h2;rw[Cy,tU (by omega)]at h1;exact h1
theorem qzw (p q4 q6 q3 q8 g1 g2:Nat) (a1 a2:Option Addr) (c1 c2 n1 n2:Nat) (ll dl:List Nat) (F:List Nat) (l:List Bool) (c:UInt8) (w:World) (h:Env p q4 q6 q3 q8 g1 g2 a1 a2 c1 c2 n1 n2 ll dl w) (hW:Wb w p F l)
  (hle:∀l∈ll,l<=15) (hw:weight ll<=32768) (hn:257<=n1) (hL:l.length<=562949953421200) :
  Calls Tryz.prog 245 #[.int .u8 c.toNat,.pointer none,.pointer (some ⟨q4,0,none⟩),.pointer (some ⟨q6,0,none⟩),.pointer (some ⟨q3,0,none⟩),.pointer (some ⟨q8,0,none⟩)] w (cJ p F w (l++lz ll dl (.lit c))):=by
 obtain⟨s,hs⟩:=ah c.toNat;have cB:s<256:=by rw[hs];exact iB _
 rw[<-hs];have vQ:=h.r1.le;rw[<-h.l1]at vQ;obtain⟨g,o,rfl,d1,d2⟩:=h.GU (show s<n1 by omega);have d3:=h.c4;have d4:=h.c6;have d5:=h.c32;have bg:=L7 p F l ll s w.drew (yH hW (Fr.av [] w) (by simp)) hle hw hL;obtain⟨x,hx⟩:=ah (df ll s);obtain⟨y,hy⟩:=ah (ai ll s);rw[<-hx]at d2 bg;rw[<-hy]at d1 bg;have hg:decide ((n1:Int)<=(s:Int))=false:=by simp;omega
 have HC:=ak bg hs;clear bg h hW hle hw hL hx hy hs;simp only[lz];go_enter Tryz.func245,Tryz.ntmps245;go_upto_region 1 with fail;refine uw 10 (by kernel_rfl) (by kernel_rfl) ?_;simp only[uj];repeat (go_big_quiet_step (fail))
 refine wpQuiet_nil ?_;go_wp2_with (go_at_call 246;refine HC.o0.mono ?_;rintro e w2 ⟨rfl,dU,hb⟩);refine bodyPost_ret (results_none rfl _ _ _) rfl ?_;rw[HC.l1]at hb;exact⟨rfl,(Fr.av F w).trans dU,hb⟩
structure Pg (p:Nat) (F:List Nat) (w:World) (b:List Bool) (F':List Nat) (w':World):Prop where
 fr:Fr F w w'
 wb:Wb w' p F' b
 new:∀y∈F',y∈F\/w.heap.size<=y
theorem Pg.start {p:Nat} {F:List Nat} {w:World} {b:List Bool} (h:Wb w p F b):Pg p F w b F w:=⟨.refl _ _,h,λ_ hy=>.inl hy⟩
theorem Pg.dF {p:Nat} {F F':List Nat} {w w1 w2:World} {b:List Bool} (h:Pg p F w b F' w1) (f:Fr [] w1 w2):Pg p F w b F' w2:=⟨h.fr.trans (f.mono (by simp)),yH h.wb f (by simp),h.new⟩
theorem Pg.step {p:Nat} {F F1:List Nat} {w w1 w2:World} {b b2:List Bool} (h:Pg p F w b F1 w1) (f:Fr F1 w1 w2) (g:∃F',Wb w2 p F' b2/\∀y∈F',y∈F1\/w1.heap.size<=y):∃F2,Pg p F w b2 F2 w2:=by
 obtain⟨F2,hb,hn⟩:=g;refine⟨F2,h.fr.step f λy hy=>h.new y hy,hb,λy hy=>?_⟩;rcases hn y hy with k|k
 ·exact h.new y k
 ·exact .inr (bS h.fr.size k)
theorem G2 (p:Nat) (F:List Nat) (l:List Bool) (x n:Nat) (w:World) (h:Wb w p F l) (hx:x<4294967296) (hn:n<=32) (hL:l.length<=562949953421312) :
  Calls Tryz.prog 247 #[.pointer (some ⟨p,0,none⟩),.int .u32 x,.int .i64 n] w (cJ p F w (l++fD n x)):=by
 have h1:=Ts p F l x (n:Nat) w h hx hL;rwa [Cy,tU hn]at h1
theorem zb3 {w:World} {a:Addr} {v:Value} (h:w.cell? a=some v):a.block<w.heap.size:=by
 rcases og a.block w.heap.size with k|k
 ·exact k
 ·unfold World.cell? at h;rw[Array.getElem?_eq_none k]at h;simp at h
theorem qzv (p q4 q6 q3 q8 g1 g2 g o:Nat) (a1 a2:Option Addr) (c1 c2 n1 n2:Nat) (ll dl:List Nat) (F:List Nat) (l:List Bool) (n d:Nat) (w:World) (h:Env p q4 q6 q3 q8 g1 g2 a1 a2 c1 c2 n1 n2 ll dl w) (hW:Wb w p F l)
  (hle:∀l∈ll,l<=15) (hw:weight ll<=32768) (lU:∀l∈dl,l<=15) (bq:weight dl<=32768) (hn:286<=n1) (iJ:30<=n2) (hL:l.length<=562949953421000)
  (hE:∀x∈vt q4 q6 q3 q8 g1 g2 a1 a2,x∉F/\x<w.heap.size) (h3:3<=n) (jI:n<=258) (h1:1<=d) (hd:d<=32768) (hg:g∉F)
  (e1:w.cell? ⟨g,o+1,none⟩=some (.int .i64 n)) (e2:w.cell? ⟨g,o+2,none⟩=some (.int .i64 d)) :
  Calls Tryz.prog 245 #[.int .u8 0,.pointer (some ⟨g,o,none⟩),.pointer (some ⟨q4,0,none⟩),.pointer (some ⟨q6,0,none⟩),.pointer (some ⟨q3,0,none⟩),.pointer (some ⟨q8,0,none⟩)] w (cJ p F w (l++lz ll dl (.mat n d))):=by
 have hlen:=RD n w h3 jI;have aY:=UM h3 jI;have Ex:=UG h1 hd;have x7:=zb3 e2;simp only at x7;unfold Triple at hlen;simp only[lz];obtain⟨s,hs⟩:=ah ((eU n).1);obtain⟨m,hm⟩:=ah ((eU n).2.1);obtain⟨v,hv⟩:=ah ((eU n).2.2);obtain⟨s2,cB⟩:=ah ((eI d).1);obtain⟨m2,hU⟩:=ah ((eI d).2.1);obtain⟨v2,xO⟩:=ah ((eI d).2.2);rw[<-hs,<-hm,<-hv]at aY hlen ⊢;rw[<-cB,<-hU,<-xO]at Ex ⊢;have jq:m<4294967296:=eT aY.2.2.2 (bS (kr (by decide) aY.2.2.1) (by decide));have Oa:m2<4294967296:=eT Ex.2.2 (bS (kr (by decide) Ex.2.1) (by decide));have vQ:=h.r1.le;rw[<-h.l1]at vQ;have wP:=h.r2.le;rw[<-h.l2]at wP;have kS:=Am ll hle s;have kS2:=Am dl lU s2;have H:=cz h hW hE hlen x7 hg e2;have HB:=lJ aY Ex jq Oa hle hw lU bq;have HD:=aP cB hU xO h1 hd;have HL:=au hL kS kS2;have hsl:s<n1:=by omega
 have y9:s2<n2:=by omega
 clear h hW hE hlen x7 hg e2 aY Ex jq Oa hle hw lU bq hs hm hv cB hU xO h1 hd h3 jI hL kS kS2;go_enter Tryz.func245,Tryz.ntmps245;go_upto_region 3 with (go_at_call 158;refine H.o3.mono ?_;rintro e w1 ⟨rfl,f1⟩;have H1:=af f1;clear f1);clear e1;have PT:=H.o0.fr H1.out (by simp);obtain⟨ga,oa,ea,d1,d2⟩:=PT.GU hsl;subst ea;have d3:=PT.c4;have d4:=PT.c6;have d5:=PT.c32;have bg:=L7 p F l ll s w1.drew (yH H.o1 (H1.out.trans (Fr.av [] w1)) (by simp)) HB.o4 HB.o5 (by have:=HL.o0;omega);obtain⟨x,hx⟩:=ah (df ll s);obtain⟨y,hy⟩:=ah (ai ll s);rw[<-hx]at d2 bg;rw[<-hy]at d1 bg;have hg:decide ((n1:Int)<=(s:Int))=false:=by simp;omega
 have HC:=af bg;clear bg hx hy PT;refine uw 10 (by kernel_rfl) (by kernel_rfl) ?_;simp only[uj];repeat (go_big_quiet_step (fail))
 refine wpQuiet_nil ?_;clear d1 d2 d3 d4 d5 hg;go_upto_region 4 with (go_at_call 246;refine HC.out.mono ?_;rintro e w2 ⟨rfl,f2,g2'⟩;have H2:=af (Pg.step (Pg.dF (Pg.start H.o1) (H1.out.trans (Fr.av [] w1))) f2 g2');clear f2 g2');obtain⟨F2,mD⟩:=H2.out;have ev2:=H.o0.fr mD.fr λx hx=>(H.o2 x hx).1
 have d3:=ev2.c4;have pX:=G2 p F2 _ m v w2 mD.wb HB.o2 (by have:=HB.o0.2.2.1;omega) (by rw[aK];have:=HL.out;omega);have GN:=af pX;clear ev2 pX;go_upto_region 5 with (go_at_call 247;refine GN.out.mono ?_;rintro e w3 ⟨rfl,f3,g3⟩;have H3:=af (Pg.step mD f3 g3);clear f3 g3);clear d3;obtain⟨F3,zQ⟩:=H3.out;have e2:=zQ.fr.cell H.l6 H.o5;have Bu:=RU d w3 HD.o3 HD.l4;unfold Triple at Bu;rw[<-HD.o0,<-HD.o1,<-HD.o2]at Bu;have HDI:=af Bu;have Ci:=af zQ;clear Bu zQ mD;go_upto_region 6 with (go_at_call 159;refine HDI.out.mono ?_;rintro e w4 ⟨rfl,f4⟩;have H4:=af f4;clear f4);clear e2;have IJ:=Ci.out.dF H4.out;have PS:=H.o0.fr IJ.fr λx hx=>(H.o2 x hx).1
 obtain⟨gb,ob,eb,d1,d2⟩:=PS.TB y9;subst eb;have d3:=PS.c4;have d4:=PS.c8;have d5:=PS.c33;have bg:=L7 p F3 _ dl s2 w4.drew (IJ.dF (Fr.av [] w4)).wb HB.o6 HB.l7 (by rw[aK,aK,aH];have:=HL.out;have:=HB.o0.2.2.1;omega);obtain⟨x2,jU⟩:∃x,x=df dl s2:=⟨_,rfl⟩;obtain⟨y2,kt⟩:∃y,y=ai dl s2:=⟨_,rfl⟩;rw[<-jU]at d2 bg;rw[<-kt]at d1 bg;have hg:decide ((n2:Int)<=(s2:Int))=false:=by simp;omega
 have HC4:=af bg;have HP4:=af IJ;clear bg jU kt PS IJ;refine uw 10 (by kernel_rfl) (by kernel_rfl) ?_;simp only[uj];repeat (go_big_quiet_step (fail))
 refine wpQuiet_nil ?_;clear d1 d2 d3 d4 d5 hg;go_upto_region 7 with (go_at_call 246;refine HC4.out.mono ?_;rintro e w5 ⟨rfl,f5,g5⟩;have H5:=af (Pg.step (HP4.out.dF (Fr.av [] w4)) f5 g5);clear f5 g5);obtain⟨F5,Ss⟩:=H5.out;have ev5:=H.o0.fr Ss.fr λx hx=>(H.o2 x hx).1
 have d3:=ev5.c4;have pX:=G2 p F5 _ m2 v2 w5 Ss.wb HB.o3 (by have:=HB.o1.2.1;omega) (by rw[aK,aK,aK,aH];have:=HL.out;have:=HB.o0.2.2.1;omega);have HC5:=af pX;have HP5:=af Ss;clear ev5 pX Ss;go_wp2_with (go_at_call 247;refine HC5.out.mono ?_;rintro e w6 ⟨rfl,f6,g6⟩;have H6:=af (Pg.step HP5.out f6 g6);clear f6 g6);(try simp only[Exit.inBlock,Exit.then]);refine bodyPost_end (results_none rfl _ _ _) rfl ?_;obtain⟨F6,Xk⟩:=H6.out;refine⟨rfl,Xk.fr,F6,?_,Xk.new⟩;have:=Xk.wb;simpa only[gH] using this
def mn (ls:List Nat) (least:Nat):Nat->Nat
 | 0=>0
 | n+1=>if least<n+1/\ai ls n=0 then mn ls least n else n+1
theorem Mb (ls:List Nat) (least:Nat):∀n,mn ls least n<=n
 | 0=>aw _
 | n+1=>by
  unfold mn;split
  ·exact Nat.le_succ_of_le (Mb ls least n)
  ·exact aw _
theorem Ue (ls:List Nat) (least:Nat):∀n,least<=n->least<=mn ls least n
 | 0,h=>by
  have:least=0:=by omega
  rw[this];exact dZ _
 | n+1,h=>by
  unfold mn;split
  ·rename_i hc;exact Ue ls least n (by omega)
  ·exact h
theorem qyu (a:Option Addr) (cap:Nat) (ls:List Nat) (least:Nat) (w:World) (h:Ri w a cap ls) (hlen:ls.length<=1000000) (hle:least<=1000000) :
  Calls Tryz.prog 248 #[.slice a ls.length cap,.int .i64 least] w λe w'=>e = .returned (.slice a (mn ls least ls.length) cap)/\w'=w:=by
 obtain⟨N,hN⟩:=ah ls.length;obtain⟨R,hR⟩:=ah (mn ls least ls.length);have hNc:=h.le;rw[<-hN]at hlen hNc ⊢;rw[<-hN]at hR;have hRN:R<=N:=by rw[hR];exact Mb _ _ _
 have hmx:cap<=9223372036854775807:=h.max;rw[<-hR];have tr:=h.nil;have H:=aF h hN hR tr;clear h hN hR tr;go_enter Tryz.func248,Tryz.ntmps248;go_wp2;go_loopg [5] N (λk s5 wr=>s5 = .int .i64 (k:Nat)/\k<=N/\R<=k/\mn ls least k=R/\w=wr);case atStart=>exact⟨rfl,aw _,hRN,H.out.2.2.1.symm,rfl⟩
 case round=>
  obtain⟨rfl,hk,hRk,kK,rfl⟩:=hrel;by_cases hl:least<gk
  ·obtain⟨k,rfl⟩:∃k,gk=k+1:=⟨gk-1,by omega⟩;have qs:k<ls.length:=by rw[<-H.out.2.1];omega
   obtain⟨g,o,rfl,hc⟩:=H.out.1.at qs;have fh:ai ls k=ls[k]:=by unfold ai;rw[bO qs];rfl
   rw[<-fh]at hc;obtain⟨v,hv⟩:=ah (ai ls k);rw[<-hv]at hc;have e1:((k+1:Nat):Int)-1=(k:Int):=by omega
   have g1:decide ((N:Int)<=(k:Int))=false:=by simp;omega
   unfold mn at kK;rw[<-hv]at kK;obtain⟨k1,x5⟩:=ah (k+1);rw[<-x5]at hl hk hRk e1 ⊢;have HK:=af x5;clear fh hv x5;by_cases uM:v=0
   ·rw[if_pos ⟨by have:=HK.out;omega,uM⟩]at kK;have q:((v:Int)==0)=true:=by simp[uM]
    have HC:=af kK;clear kK;go_wp2;go_roundg k;case measure=>have:=HK.out;omega
    case rel=>exact⟨by go_num,by have:=HK.out;omega,by have h:=Mb ls least k;have:=HC.out;omega,HC.out,rfl⟩
   ·rw[if_neg (λhh=>uM hh.2)]at kK;have q:((v:Int)==0)=false:=by simp only[beq_eq_false_iff_ne];omega
    obtain rfl:k1=R:=by have:=HK.out;omega
    clear kK;go_wp2;go_ret;exact⟨rfl,rfl⟩
  ·have e:mn ls least gk=gk:=by
    cases gk with
    | zero=>rfl
    | succ n=>unfold mn;rw[if_neg (by omega)]
   obtain rfl:gk=R:=by omega
   have q:decide ((least:Int)<(gk:Int))=false:=by simp;omega
   clear e kK;cases a with
   | none=>
    have h0:=H.out.2.2.2 rfl;obtain rfl:cap=0:=h0;obtain rfl:gk=0:=by omega
    go_wp2;go_ret;exact⟨rfl,rfl⟩
   | some ad=>obtain⟨g,o,s⟩:=ad;go_wp2;go_ret;exact⟨rfl,rfl⟩
abbrev Rn:=Nat×Nat×Nat
def cY (l:List Rn):List Value:=l.flatMap λx=>[.int .i64 (x.1:Nat),.int .u32 (x.2.1:Nat),.int .i64 (x.2.2:Nat)]
theorem FG (a b:List Rn):cY (a++b)=cY a++cY b:=by simp[cY]
theorem Vi:∀(l:List Rn) (i:Nat) (x:Rn),l[i]?=some x->(cY l)[i*3]?=some (.int .i64 (x.1:Nat))/\(cY l)[i*3+1]?=some (.int .u32 (x.2.1:Nat))/\(cY l)[i*3+2]?=some (.int .i64 (x.2.2:Nat))
 | [],i,x,h=>by simp at h
 | y::l,0,x,h=>by
  simp only[aV,eS]at h;subst h;exact⟨rfl,rfl,rfl⟩
 | y::l,i+1,x,h=>by have:=Vi l i x (by simpa using h);rw[show (i+1)*3=i*3+3 from by omega];exact this
def oU (out:List Nat) (r:Rn):List Nat:=
 if r.1<16 then out++[r.1] else if r.1=16 then out++List.replicate (3+r.2.1) (out.getLast?.getD 0) else if r.1=17 then out++List.replicate (3+r.2.1) 0 else out++List.replicate (11+r.2.1) 0
def okR (out:List Nat) (r:Rn):Prop:=
 (r.1<=15/\r.2.1=0/\r.2.2=0)\/(r.1=16/\r.2.1<4/\r.2.2=2/\out≠[])\/(r.1=17/\r.2.1<8/\r.2.2=3)\/(r.1=18/\r.2.1<128/\r.2.2=7)
def cK:List Nat->List Rn->List Nat->Prop
 | out,[],fin=>out=fin
 | out,r::rs,fin=>okR out r/\cK (oU out r) rs fin
theorem cK.add:∀{rs:List Rn} {out mid:List Nat} {r:Rn},cK out rs mid->okR mid r->cK out (rs++[r]) (oU mid r)
 | [],out,mid,r,h,k=>by obtain rfl:out=mid:=h;exact⟨k,rfl⟩
 | x::rs,out,mid,r,h,k=>⟨h.1,cK.add h.2 k⟩
theorem zbr (out:List Nat) (r:Rn):out.length+1<=(oU out r).length:=by
 unfold oU;split
 ·simp
 ·split
  ·simp;omega
  ·split<;>simp<;>omega
theorem cK.len:∀{rs:List Rn} {out fin:List Nat},cK out rs fin->out.length+rs.length<=fin.length
 | [],out,fin,h=>by obtain rfl:out=fin:=h;simp
 | x::rs,out,fin,h=>by have h1:=cK.len h.2;have h2:=zbr out x;simp only[cQ];omega
def fV (base:List Nat) (x d:Nat):List Nat:=base++List.replicate d x
theorem U4 (base:List Nat) (x d:Nat):(fV base x d).length=base.length+d:=by simp[fV]
theorem qw8 (base:List Nat) (x d:Nat) (h:1<=d):(fV base x d).getLast?.getD 0=x:=by obtain⟨e,rfl⟩:∃e,d=e+1:=⟨d-1,by omega⟩;unfold fV;rw[Hx,<-gH,List.getLast?_append];simp
theorem qw7 (base:List Nat) (x d:Nat) (h:1<=d):fV base x d≠[]:=by intro e;have:=congrArg List.length e;rw[U4]at this;simp at this;omega
theorem Mm (base:List Nat) (x d k:Nat):fV base x d++List.replicate k x=fV base x (d+k):=by unfold fV;rw[gH,List.replicate_append_replicate]
theorem qyn (base:List Nat) (x d:Nat) (hx:x<=15):oU (fV base x d) (x,0,0)=fV base x (d+1):=by unfold oU;rw[if_pos (by simp only;omega)];exact Mm base x d 1
theorem ZP (base:List Nat) (x d k:Nat) (h:1<=d) (hk:3<=k):oU (fV base x d) (16,k-3,2)=fV base x (d+k):=by unfold oU;rw[if_neg (by simp),if_pos rfl,qw8 base x d h];simp only;rw[show 3+(k-3)=k from by omega];exact Mm base x d k
theorem ZQ (base:List Nat) (d k:Nat) (hk:3<=k):oU (fV base 0 d) (17,k-3,3)=fV base 0 (d+k):=by unfold oU;rw[if_neg (by simp),if_neg (by simp),if_pos rfl];simp only;rw[show 3+(k-3)=k from by omega];exact Mm base 0 d k
theorem ZR (base:List Nat) (d k:Nat) (hk:11<=k):oU (fV base 0 d) (18,k-11,7)=fV base 0 (d+k):=by unfold oU;rw[if_neg (by simp),if_neg (by simp),if_neg (by simp)];simp only;rw[show 11+(k-11)=k from by omega];exact Mm base 0 d k
theorem qta (ls:List Nat) (i:Nat):∀n,i+n<=ls.length->(∀j,j<n->ai ls (i+j)=ai ls i)->ls.take (i+n)=fV (ls.take i) (ai ls i) n
 | 0,_,_=>by simp[fV]
 | n+1,h1,h2=>by
  have ih:=qta ls i n (by omega) λj hj=>h2 j (by omega)
  have hl:i+n<ls.length:=by omega
  have e:ls[i+n]=ai ls i:=by rw[<-h2 n (by omega)];unfold ai;rw[bO hl];rfl
  rw[show i+(n+1)=i+n+1 from rfl,DJ hl,ih,e];exact Mm (ls.take i) (ai ls i) n 1
theorem nZ:ax Tryz.prog 341 344 (.agg #[.int .i64 0,.int .u32 0,.int .i64 0]) 3 24:=ax.of Tryz.underlying341 (by kernel_rfl) rfl (by decide)
theorem Fa (w:World) (x y z:Value) (T:TypeId):Cs (w.alloc (.cells #[x,y,z] T)) (some ⟨w.heap.size,0,none⟩) [x,y,z]:=by refine .inr ⟨_,0,rfl,λj v hv=>?_⟩;rw[cell_of (bx w _),fM];simpa using hv
theorem uG {x y z:Value} (hx:x.oneCell'=true) (hy:y.oneCell'=true) (hz:z.oneCell'=true):∀u∈[x,y,z],u.oneCell'=true:=by
 intro u hu;simp only[gw,v7,or_false]at hu;rcases hu with rfl|rfl|rfl
 ·exact hx
 ·exact hy
 ·exact hz
theorem zaf (a:Option Addr) (cap:Nat) (ls:List Nat) (w:World) (h:Ri w a cap ls) (hlen:ls.length<=100000) (sN:∀l∈ls,l<=15) :
  Calls Tryz.prog 249 #[.slice a ls.length cap] w λe w'=>∃ao rn cp rs,e = .returned (.slice ao rn cp)/\rn=rs.length/\Made w w' 344 3 ao rn cp (cY rs)/\cK [] rs ls:=by
 obtain⟨N,hN⟩:=ah ls.length;rw[<-hN]at hlen ⊢;have H:=au h hN sN;clear h hN sN;go_enter Tryz.func249,Tryz.ntmps249;go_wp2;go_loopg [3,4,5,6,7,62,72,87] N (λk s3 s4 s5 s6 s7 s62 s72 s87 wr=>∃(i:Nat) (ao:Option Addr) (rn cp:Nat) (rs:List Rn),s4 = .int .i64 (i:Nat)/\s3 = .slice ao rn cp/\k=N-i/\i<=N/\rn=rs.length/\Made w wr 344 3 ao rn cp (cY rs)/\cK [] rs (ls.take i));case atStart=>exact⟨0,none,0,0,[],rfl,rfl,rfl,dZ _,rfl,.none w _ _,rfl⟩
 case round=>
  obtain⟨i,ao,rn,cp,rs,rfl,rfl,hk,hiN,jE,hm,fg⟩:=hrel;by_cases hi:i<N
  ·have eC:i<ls.length:=by rw[<-H.out.2.1];exact hi
   obtain⟨g,o,rfl,hc⟩:=(H.out.1.fr hm.fr).at eC;have fh:∀j,j<ls.length->ls[j]?=some (ai ls j):=λj hj=>by unfold ai;rw[bO hj];rfl
   have iV:ai ls i<=15:=H.out.2.2 _ (KE eC);have hcell:∀j,j<N->wr.cell? ⟨g,o+j,none⟩=some (.int .i64 (ai ls j:Nat)):=λj hj=>by obtain⟨g',o',e,Jh⟩:=(H.out.1.fr hm.fr).at (i:=j) (by rw[<-H.out.2.1];exact hj);simp only[eS,qU,and_true]at e;obtain⟨rfl,rfl⟩:=e;rw[Jh,<-(lL ((bO (by rw[<-H.out.2.1];exact hj)).symm.trans (fh j (by rw[<-H.out.2.1];exact hj))))]
   have HI:=aP hm fg hk jE hcell;have HX:=af iV;obtain⟨x,hx⟩:=ah (ai ls i);have dx:=hcell i hi;rw[<-hx]at dx;have Ti:=af hx;clear hm fg hk jE hcell fh hc iV hx eC;obtain⟨wo,ou⟩:∃wo:World,wo=wr:=⟨_,rfl⟩;have GK:=af ou;rw[<-ou]at dx ⊢;clear ou;go_wp2;go_loopg [5] (N-1) (λk s5 wz=>∃n:Nat,s5 = .int .i64 (n:Nat)/\1<=n/\i+n<=N/\k=N-n/\(∀j,j<n->ai ls (i+j)=ai ls i)/\Fr [] wo wz);case atStart=>exact⟨1,rfl,aw _,by omega,rfl,λj hj=>by rw[show j=0 from by omega,jS],.refl _ _⟩
   case round=>
    obtain⟨n,rfl,vQ,hnN,rq,aE,Bp⟩:=hrel;obtain⟨y,hy⟩:=ah (i+n);have e0:(i:Int)+(n:Int)=(y:Int):=by omega
    have dx2:=Bp.cell dx (by simp);have key:(y<N/\ai ls y=x)\/(y<N/\ai ls y≠x)\/N<=y:=by omega
    have pU:(y<N/\ai ls y=x)\/((y<N/\ai ls y≠x)\/N<=y):=key;clear key;rcases pU with⟨Ip,CN⟩|pU
    ·have dy:=(HI.l4 y Ip);rw[<-GK.out,CN]at dy;have dy2:=Bp.cell dy (by simp);have q:((x:Int)==(x:Int))=true:=by simp
     have g1:decide ((N:Int)<=(y:Int))=false:=by simp;omega
     have g2:decide ((N:Int)<=(i:Int))=false:=by simp;omega
     have g3:decide ((y:Int)<(N:Int))=true:=by simp;omega
     have HK:=aP aE Bp hy rq CN;clear aE Bp hy rq dy CN;go_upto_region 5 with fail;go_quiet (fail);go_wp2;go_roundg (N-(n+1));case measure=>have:=HK.out.2.2.2.1;have:=HK.out.2.2.1;omega
     case rel=>
      obtain⟨aE,Bp,hy,rq,CN⟩:=HK.out;refine⟨n+1,by go_num,by omega,by omega,rfl,λj hj=>?_,Bp.trans (Fr.drewN [] _ _)⟩;rcases og j n with k|k
      ·exact aE j k
      ·rw[show j=n from by omega,<-hy,CN,Ti.out]
    ·have wH:(y<N/\decide (y<N)=true)\/N<=y:=by rcases pU with k|k;exact .inl ⟨k.1,by simp[k.1]⟩;exact .inr k
     have hyB:y<=100000:=by omega
     have Ip:y<=N:=by omega
     have HK:=aP aE Bp hy rq pU;clear aE Bp rq pU hy;go_upto_region 5 with fail;go_cut [30] from 12 to 31 (λs30 wd=>s30 = .bool false/\Fr [] wr wd)
     case first=>
      rcases HK.out.2.2.2.2 with⟨Ip,CN⟩|Ip
      ·have dy:=(HI.l4 y Ip);obtain⟨v,hv⟩:=ah (ai ls y);rw[<-GK.out,<-hv]at dy;rw[<-hv]at CN;have dy2:=HK.out.2.1.cell dy (by simp);have q:((v:Int)==(x:Int))=false:=by simp only[beq_eq_false_iff_ne];omega
       have g1:decide ((N:Int)<=(y:Int))=false:=by simp;omega
       have g2:decide ((N:Int)<=(i:Int))=false:=by simp;omega
       have g3:decide ((y:Int)<(N:Int))=true:=by simp;omega
       clear dy hv CN wH;go_quiet (fail);go_wp2;go_meet;exact⟨rfl,Fr.drewN [] _ _⟩
      ·have g3:decide ((y:Int)<(N:Int))=false:=by simp;omega
       have g4:decide (y<N)=false:=by simp;omega
       have ew:IntKind.i64.wrap (y:Int)=(y:Int):=by rw[oh];omega
       clear wH Ip;go_quiet (fail);go_wp2;go_meet;exact⟨rfl,Fr.drewN [] _ _⟩
     case rest=>
     obtain⟨rfl,Eu⟩:=hcut;have dx3:=Eu.cell dx2 (by simp);have g2:decide ((N:Int)<=(i:Int))=false:=by simp;omega
     obtain⟨wd,xN⟩:∃wd:World,wd=wc:=⟨_,rfl⟩;rw[<-xN]at dx3 Eu ⊢;have fd:=HK.out.2.1.trans Eu;have bF:ls.take y=fV (ls.take i) x n:=by obtain⟨aE,Bp,hy,rq,_⟩:=HK.out;rw[hy,Ti.out];exact qta ls i n (by rw[<-H.out.2.1];omega) aE
     have iV:x<=15:=by rw[Ti.out];exact HX.out
     have tu:=HI.o0;rw[<-GK.out]at tu;have HD:=bJ bF (tu.fk fd) HI.o1 HI.o3 HI.o2 HK.out.2.2.1;have D8:rn<=100000:=by have:=HI.o1.len;rw[eJ,<-HI.o3]at this;simp at this;omega
     clear HK HI HX Ti GK bF tu fd Eu xN dx2 dx wH;go_upto_if 41 with fail;clear dx3 g2;go_cut [3,5] from 41 to 49 (λs3 s5 wz=>∃(rem d:Nat) (ao:Option Addr) (rn cp:Nat) (rs:List Rn),s5 = .int .i64 (rem:Nat)/\s3 = .slice ao rn cp/\rem+d=n/\(0<x->1<=d)/\rn=rs.length/\Made w wz 344 3 ao rn cp (cY rs)/\cK [] rs (fV (ls.take i) x d))
     case first=>
      by_cases gM:0<x
      ·have q:decide ((0:Int)<(x:Int))=true:=by simp;omega
       obtain⟨n1,N9⟩:∃n1,n1=n-1:=⟨_,rfl⟩;have e1:(n:Int)-1=(n1:Int):=by omega
       have HN1:=af N9;clear N9;go_wp2_with (refine iq nZ rfl _ _ rfl (.slice ao rn cp) rn (cY rs) (ae ao) rfl (dw ao rn cp) (HD.o1.fk ((Fr.refl [] _).alloc _)).own (some ⟨wd.heap.size,0,none⟩) 1 1 [.int .i64 x,.int .u32 0,.int .i64 0] (by first|rfl|simp) (aw _) (λh=>by cases h) (Fa _ _ _ _ _) rfl (uG (by rfl) (by rfl) (by rfl)) (by omega) (by unfold maxLen;omega) ?_;intro cX fP w2 bI;have HA:=af ((HD.o1.fk ((Fr.refl [] _).alloc _)).app bI);clear bI);go_meet;have:=HN1.out;refine⟨n1,1,cX,rn+1,fP,rs++[(x,0,0)],rfl,rfl,by omega,λ_=>aw _,by rw[aK,HD.o3];rfl,by rw[FG];exact HA.out,?_⟩;have h1:=cK.add HD.o2 (r:=(x,0,0)) (.inl ⟨iV,rfl,rfl⟩);have h2:=qyn (ls.take i) x 0 iV;rw[show fV (ls.take i) x 0=ls.take i from by simp[fV]]at h2;rwa [h2]at h1
      ·obtain rfl:x=0:=by omega
       go_wp2;go_meet;exact⟨n,0,ao,rn,cp,rs,rfl,rfl,rfl,λh=>absurd h (by omega),HD.o3,HD.o1,by rw[show fV (ls.take i) 0 0=ls.take i from by simp[fV]];exact HD.o2⟩
     case rest=>
     obtain⟨rem,d,ao,rn,cp,rs,rfl,rfl,bP,oC,jE,hm,fg⟩:=hcut;have HR:=aP bP oC jE hm fg;have zaA:rem<=100000:=by omega
     clear bP oC jE hm fg D8;go_wp2;go_loopg [3,5,7,62,72] rem (λk s3 s5 s7 s62 s72 wz=>∃(d:Nat) (ao:Option Addr) (rn cp:Nat) (rs:List Rn),s5 = .int .i64 (k:Nat)/\s3 = .slice ao rn cp/\k+d=n/\(0<x->1<=d)/\rn=rs.length/\Made w wz 344 3 ao rn cp (cY rs)/\cK [] rs (fV (ls.take i) x d));case atStart=>exact⟨d,ao,rn,cp,rs,rfl,rfl,HR.out⟩
     case round=>
      obtain⟨d,ao,rn,cp,rs,rfl,rfl,bP,oC,jE,hm,fg⟩:=hrel;have D8:rn<=200000:=by have:=fg.len;rw[U4,eJ]at this;have:=H.out.2.1;simp only[lK]at *;omega
      have hgk:gk<=100000:=by omega
      have HZ:=aP bP oC jE hm fg;clear bP oC jE hm fg;by_cases h3:3<=gk
      ·by_cases gM:0<x
       ·by_cases h6:6<gk
        ·obtain⟨m,hm⟩:=ah (6-3);obtain⟨q,hq⟩:=ah (gk-6);have em:((6:Nat):Int)-3=(m:Int):=by omega
         have eq:(gk:Int)-((6:Nat):Int)=(q:Int):=by omega
         have jq:m<=1000:=by omega
         have uP:q<gk:=by omega
         have HM:=ak hm hq;clear hm hq;go_wp2_with (refine iq nZ rfl _ _ rfl (.slice ao rn cp) rn (cY rs) (ae ao) rfl (dw ao rn cp) (HZ.out.2.2.2.1.fk ((Fr.refl [] _).alloc _)).own (some ⟨wr.heap.size,0,none⟩) 1 1 [.int .i64 16,.int .u32 3,.int .i64 2] (by first|rfl|simp) (aw _) (λh=>by cases h) (Fa _ _ _ _ _) rfl (uG (by rfl) (by rfl) (by rfl)) (by omega) (by unfold maxLen;omega) ?_;intro cX fP w2 bI;have HA:=af ((HZ.out.2.2.2.1.fk ((Fr.refl [] _).alloc _)).app bI);clear bI);go_roundg q;case measure=>exact uP
         case rel=>obtain⟨bP,oC,jE,lf,fg⟩:=HZ.out;obtain⟨hm,hq⟩:=HM.out;refine⟨d+6,cX,rn+1,fP,rs++[(16,3,2)],by go_num,rfl,by omega,λh=>by omega,by rw[aK,jE];rfl,by rw[FG];exact HA.out,?_⟩;have h1:=cK.add fg (r:=(16,3,2)) (.inr (.inl ⟨rfl,by show 3<4;omega,rfl,qw7 _ _ _ (oC (by omega))⟩));have h2:=ZP (ls.take i) x d 6 (oC (by omega)) (by omega);rw[h2]at h1;exact h1
        ·obtain⟨m,hm⟩:=ah (gk-3);obtain⟨q,hq⟩:=ah (gk-gk);have em:((gk:Nat):Int)-3=(m:Int):=by omega
         have eq:(gk:Int)-((gk:Nat):Int)=(q:Int):=by omega
         have jq:m<=1000:=by omega
         have uP:q<gk:=by omega
         have HM:=ak hm hq;clear hm hq;go_wp2_with (refine iq nZ rfl _ _ rfl (.slice ao rn cp) rn (cY rs) (ae ao) rfl (dw ao rn cp) (HZ.out.2.2.2.1.fk ((Fr.refl [] _).alloc _)).own (some ⟨wr.heap.size,0,none⟩) 1 1 [.int .i64 16,.int .u32 m,.int .i64 2] (by first|rfl|simp) (aw _) (λh=>by cases h) (Fa _ _ _ _ _) rfl (uG (by rfl) (by rfl) (by rfl)) (by omega) (by unfold maxLen;omega) ?_;intro cX fP w2 bI;have HA:=af ((HZ.out.2.2.2.1.fk ((Fr.refl [] _).alloc _)).app bI);clear bI);go_roundg q;case measure=>exact uP
         case rel=>obtain⟨bP,oC,jE,lf,fg⟩:=HZ.out;obtain⟨hm,hq⟩:=HM.out;refine⟨d+gk,cX,rn+1,fP,rs++[(16,m,2)],by go_num,rfl,by omega,λh=>by omega,by rw[aK,jE];rfl,by rw[FG];exact HA.out,?_⟩;have h1:=cK.add fg (r:=(16,m,2)) (.inr (.inl ⟨rfl,by show m<4;omega,rfl,qw7 _ _ _ (oC (by omega))⟩));have h2:=ZP (ls.take i) x d gk (oC (by omega)) (by omega);rw[<-hm]at h2;rw[h2]at h1;exact h1
       ·obtain rfl:x=0:=by omega
        by_cases vT:gk<11
        ·by_cases h6:6<gk
         ·obtain⟨m,hm⟩:=ah (gk-3);obtain⟨q,hq⟩:=ah (gk-gk);have em:((gk:Nat):Int)-3=(m:Int):=by omega
          have eq:(gk:Int)-((gk:Nat):Int)=(q:Int):=by omega
          have jq:m<=1000:=by omega
          have uP:q<gk:=by omega
          have HM:=ak hm hq;clear hm hq;go_wp2_with (refine iq nZ rfl _ _ rfl (.slice ao rn cp) rn (cY rs) (ae ao) rfl (dw ao rn cp) (HZ.out.2.2.2.1.fk ((Fr.refl [] _).alloc _)).own (some ⟨wr.heap.size,0,none⟩) 1 1 [.int .i64 17,.int .u32 m,.int .i64 3] (by first|rfl|simp) (aw _) (λh=>by cases h) (Fa _ _ _ _ _) rfl (uG (by rfl) (by rfl) (by rfl)) (by omega) (by unfold maxLen;omega) ?_;intro cX fP w2 bI;have HA:=af ((HZ.out.2.2.2.1.fk ((Fr.refl [] _).alloc _)).app bI);clear bI);go_roundg q;case measure=>exact uP
          case rel=>obtain⟨bP,oC,jE,lf,fg⟩:=HZ.out;obtain⟨hm,hq⟩:=HM.out;refine⟨d+gk,cX,rn+1,fP,rs++[(17,m,3)],by go_num,rfl,by omega,λh=>by omega,by rw[aK,jE];rfl,by rw[FG];exact HA.out,?_⟩;have h1:=cK.add fg (r:=(17,m,3)) (.inr (.inr (.inl ⟨rfl,by show m<8;omega,rfl⟩)));have h2:=ZQ (ls.take i) d gk (by omega);rw[<-hm]at h2;rw[h2]at h1;exact h1
         ·obtain⟨m,hm⟩:=ah (gk-3);obtain⟨q,hq⟩:=ah (gk-gk);have em:((gk:Nat):Int)-3=(m:Int):=by omega
          have eq:(gk:Int)-((gk:Nat):Int)=(q:Int):=by omega
          have jq:m<=1000:=by omega
          have uP:q<gk:=by omega
          have HM:=ak hm hq;clear hm hq;go_wp2_with (refine iq nZ rfl _ _ rfl (.slice ao rn cp) rn (cY rs) (ae ao) rfl (dw ao rn cp) (HZ.out.2.2.2.1.fk ((Fr.refl [] _).alloc _)).own (some ⟨wr.heap.size,0,none⟩) 1 1 [.int .i64 17,.int .u32 m,.int .i64 3] (by first|rfl|simp) (aw _) (λh=>by cases h) (Fa _ _ _ _ _) rfl (uG (by rfl) (by rfl) (by rfl)) (by omega) (by unfold maxLen;omega) ?_;intro cX fP w2 bI;have HA:=af ((HZ.out.2.2.2.1.fk ((Fr.refl [] _).alloc _)).app bI);clear bI);go_roundg q;case measure=>exact uP
          case rel=>obtain⟨bP,oC,jE,lf,fg⟩:=HZ.out;obtain⟨hm,hq⟩:=HM.out;refine⟨d+gk,cX,rn+1,fP,rs++[(17,m,3)],by go_num,rfl,by omega,λh=>by omega,by rw[aK,jE];rfl,by rw[FG];exact HA.out,?_⟩;have h1:=cK.add fg (r:=(17,m,3)) (.inr (.inr (.inl ⟨rfl,by show m<8;omega,rfl⟩)));have h2:=ZQ (ls.take i) d gk (by omega);rw[<-hm]at h2;rw[h2]at h1;exact h1
        ·have h6:6<gk:=by omega
         by_cases h138:138<gk
         ·obtain⟨m,hm⟩:=ah (138-11);obtain⟨q,hq⟩:=ah (gk-138);have em:((138:Nat):Int)-11=(m:Int):=by omega
          have eq:(gk:Int)-((138:Nat):Int)=(q:Int):=by omega
          have jq:m<=1000:=by omega
          have uP:q<gk:=by omega
          have HM:=ak hm hq;clear hm hq;go_wp2_with (refine iq nZ rfl _ _ rfl (.slice ao rn cp) rn (cY rs) (ae ao) rfl (dw ao rn cp) (HZ.out.2.2.2.1.fk ((Fr.refl [] _).alloc _)).own (some ⟨wr.heap.size,0,none⟩) 1 1 [.int .i64 18,.int .u32 127,.int .i64 7] (by first|rfl|simp) (aw _) (λh=>by cases h) (Fa _ _ _ _ _) rfl (uG (by rfl) (by rfl) (by rfl)) (by omega) (by unfold maxLen;omega) ?_;intro cX fP w2 bI;have HA:=af ((HZ.out.2.2.2.1.fk ((Fr.refl [] _).alloc _)).app bI);clear bI);go_roundg q;case measure=>exact uP
          case rel=>obtain⟨bP,oC,jE,lf,fg⟩:=HZ.out;obtain⟨hm,hq⟩:=HM.out;refine⟨d+138,cX,rn+1,fP,rs++[(18,127,7)],by go_num,rfl,by omega,λh=>by omega,by rw[aK,jE];rfl,by rw[FG];exact HA.out,?_⟩;have h1:=cK.add fg (r:=(18,127,7)) (.inr (.inr (.inr ⟨rfl,by show 127<128;omega,rfl⟩)));have h2:=ZR (ls.take i) d 138 (by omega);rw[h2]at h1;exact h1
         ·obtain⟨m,hm⟩:=ah (gk-11);obtain⟨q,hq⟩:=ah (gk-gk);have em:((gk:Nat):Int)-11=(m:Int):=by omega
          have eq:(gk:Int)-((gk:Nat):Int)=(q:Int):=by omega
          have jq:m<=1000:=by omega
          have uP:q<gk:=by omega
          have HM:=ak hm hq;clear hm hq;go_wp2_with (refine iq nZ rfl _ _ rfl (.slice ao rn cp) rn (cY rs) (ae ao) rfl (dw ao rn cp) (HZ.out.2.2.2.1.fk ((Fr.refl [] _).alloc _)).own (some ⟨wr.heap.size,0,none⟩) 1 1 [.int .i64 18,.int .u32 m,.int .i64 7] (by first|rfl|simp) (aw _) (λh=>by cases h) (Fa _ _ _ _ _) rfl (uG (by rfl) (by rfl) (by rfl)) (by omega) (by unfold maxLen;omega) ?_;intro cX fP w2 bI;have HA:=af ((HZ.out.2.2.2.1.fk ((Fr.refl [] _).alloc _)).app bI);clear bI);go_roundg q;case measure=>exact uP
          case rel=>obtain⟨bP,oC,jE,lf,fg⟩:=HZ.out;obtain⟨hm,hq⟩:=HM.out;refine⟨d+gk,cX,rn+1,fP,rs++[(18,m,7)],by go_num,rfl,by omega,λh=>by omega,by rw[aK,jE];rfl,by rw[FG];exact HA.out,?_⟩;have h1:=cK.add fg (r:=(18,m,7)) (.inr (.inr (.inr ⟨rfl,by show m<128;omega,rfl⟩)));have h2:=ZR (ls.take i) d gk (by omega);rw[<-hm]at h2;rw[h2]at h1;exact h1
      ·obtain⟨rem,IA⟩:=ah gk;rw[<-IA];have hr3:rem<3:=by omega
       have HRM:=af IA;clear IA h3;go_wp2;go_loopg [3,87] rem (λk s3 s87 wz=>∃(t:Nat) (ao:Option Addr) (rn cp:Nat) (rs:List Rn),s87 = .int .i64 (t:Nat)/\s3 = .slice ao rn cp/\t+k=rem/\rn=rs.length/\Made w wz 344 3 ao rn cp (cY rs)/\cK [] rs (fV (ls.take i) x (d+t)));case atStart=>exact⟨0,ao,rn,cp,rs,rfl,rfl,by omega,HZ.out.2.2.1,HZ.out.2.2.2.1,HZ.out.2.2.2.2⟩
       case round=>
        obtain⟨t,ao,rn,cp,rs,rfl,rfl,bF,jE,hm,fg⟩:=hrel;by_cases ht:t<rem
        ·obtain⟨k2,rfl⟩:∃k2,gk=k2+1:=⟨gk-1,by omega⟩;have D8:rn<=300000:=by have:=fg.len;rw[U4,eJ]at this;have:=H.out.2.1;have:=HZ.out.1;simp only[lK]at *;omega
         have HY:=aF bF jE hm fg;clear bF jE hm fg;go_wp2_with (refine iq nZ rfl _ _ rfl (.slice ao rn cp) rn (cY rs) (ae ao) rfl (dw ao rn cp) (HY.out.2.2.1.fk ((Fr.refl [] _).alloc _)).own (some ⟨wr.heap.size,0,none⟩) 1 1 [.int .i64 x,.int .u32 0,.int .i64 0] (by first|rfl|simp) (aw _) (λh=>by cases h) (Fa _ _ _ _ _) rfl (uG (by rfl) (by rfl) (by rfl)) (by omega) (by unfold maxLen;omega) ?_;intro cX fP w2 bI;have HA:=af ((HY.out.2.2.1.fk ((Fr.refl [] _).alloc _)).app bI);clear bI);go_roundg k2;case measure=>omega
         case rel=>obtain⟨bF,jE,hm,fg⟩:=HY.out;refine⟨t+1,cX,rn+1,fP,rs++[(x,0,0)],by go_num,rfl,by omega,by rw[aK,jE];rfl,by rw[FG];exact HA.out,?_⟩;have h1:=cK.add fg (r:=(x,0,0)) (.inl ⟨iV,rfl,rfl⟩);rw[qyn (ls.take i) x (d+t) iV]at h1;exact h1
        ·obtain rfl:t=rem:=by omega
         have HY:=au jE hm fg;clear bF jE hm fg;go_wp2;go_roundg (N-y);case measure=>have:=HD.o4;have:=HD.l5;omega
         case rel=>obtain⟨jE,hm,fg⟩:=HY.out;refine⟨y,ao,rn,cp,rs,rfl,rfl,rfl,Ip,jE,hm,?_⟩;rw[HD.o0,show n=d+t from by have:=HZ.out.1;have:=HRM.out;omega];exact fg
  ·obtain rfl:i=N:=by omega
   have HY:=au jE hm fg;clear hk jE hm fg;go_wp2;go_ret;obtain⟨jE,hm,fg⟩:=HY.out;rw[oI (by rw[<-H.out.2.1];exact aw _)]at fg;exact⟨ao,rn,cp,rs,rfl,jE,hm,fg⟩
end defl

end Go.Proofs.YtkmpfgpfbmeihaaGreatDoor