/-
  Texts of this proof, one behind the other: TokBits, CutRuns.
-/
import Derived.Test.YtkmpfgpfbmeihaaGreatDoorQ10
set_option maxHeartbeats 16000000
set_option maxRecDepth 100000
set_option linter.unusedVariables false
set_option linter.unusedSimpArgs false
namespace Go.Proofs.YtkmpfgpfbmeihaaGreatDoor
namespace defl
open Go Go.RowKit lib bm bl mat huf wb
def cq (ls:LN) (s:Nat):List Bool:=msb (ae ls s) (cN ls s)
def gL (ll dl:LN):Tok->List Bool
 | .lit c=>cq ll c.toNat
 | .mat n d=>cq ll (bJ n).1++dM (bJ n).2.2 (bJ n).2.1++cq dl (cF d).1++dM (cF d).2.2 (cF d).2.1
def bG (ll dl:LN) (t:List Tok):List Bool:=t.flatMap (gL ll dl)
theorem SH (ll dl:LN) (t:List Tok) (x:Tok):bG ll dl (t++[x])=bG ll dl t++gL ll dl x:=by simp[bG]
theorem Bg (ls:LN) (hle:∀l∈ls,l<=15) (s:Nat):(cq ls s).length<=15:=by
 unfold cq;rw[FQ];unfold ae;cases h:ls[s]? with
 | none=>simp
 | some x=>simpa[h] using hle x (gB h)
theorem WH (ll dl:LN) (h1:∀l∈ll,l<=15) (h2:∀l∈dl,l<=15) (x:Tok) (hx:∀n d,x = .mat n d->3<=n/\n<=258/\1<=d/\d<=32768):(gL ll dl x).length<=48:=by
 cases x with
 | lit c=>have:=Bg ll h1 c.toNat;simp only[gL];omega
 | mat n d=>obtain⟨a,b,c,e⟩:=hx n d rfl;have k1:=Bg ll h1 (bJ n).1;have k2:=Bg dl h2 (cF d).1;have k3:=(Nw a b).2.2.1;have k4:=(Nq c e).2.1;simp only[gL,aA,ax];omega
def U32 (w:World) (g:Nat) (xs:LN):Prop:=Cs w (some ⟨g,0,none⟩) (xs.map λx=>.int .u32 (x:Nat))
theorem WY {ls:LN} {s:Nat} (h:s<ls.length):(du ls)[s]?=some (cN ls s):=by simp[du,h]
theorem za2 (ls:LN) (s:Nat) (hle:∀l∈ls,l<=15) (hw:weight ls<=32768):cN ls s<32768:=by
 unfold cN;split
 ·decide
 ·rename_i h;have h1:=za1 ls s hle hw (by omega);have h2:ae ls s<=15:=hle _ (FG (Ag (by omega)));exact eW h1 (kh (by decide) h2)
structure Env (p q4 q6 q3 q8 g1 g2:Nat) (a1 a2:OA) (c1 c2 n1 n2:Nat) (ll dl:LN) (w:World):Prop where
 c4:w.cell? ⟨q4,0,none⟩=some (.pointer (some ⟨p,0,none⟩))
 c6:w.cell? ⟨q6,0,none⟩=some (.slice (some ⟨g1,0,none⟩) n1 n1)
 c32:w.cell? ⟨q3,2,none⟩=some (.slice a1 n1 c1)
 c33:w.cell? ⟨q3,3,none⟩=some (.slice a2 n2 c2)
 c8:w.cell? ⟨q8,0,none⟩=some (.slice (some ⟨g2,0,none⟩) n2 n2)
 u1:U32 w g1 (du ll)
 u2:U32 w g2 (du dl)
 r1:Ri w a1 c1 ll
 r2:Ri w a2 c2 dl
 l1:n1=ll.length
 l2:n2=dl.length
def vH (q4 q6 q3 q8 g1 g2:Nat) (a1 a2:OA):List Nat:=[q4,q6,q3,q8,g1,g2]++af a1++af a2
theorem CZ {S:LN} {w w':World} {a:OA} {cap:Nat} {xs:LN} (h:Ri w a cap xs) (f:Fr S w w') (hn:∀x∈af a,x∉S):Ri w' a cap xs:=⟨h.cs.fr f hn,h.le,h.max,h.nil⟩
theorem Env.fr {p q4 q6 q3 q8 g1 g2:Nat} {a1 a2:OA} {c1 c2 n1 n2:Nat} {ll dl:LN} {w w':World} {S:LN} (h:Env p q4 q6 q3 q8 g1 g2 a1 a2 c1 c2 n1 n2 ll dl w) (f:Fr S w w')
  (hn:∀x∈vH q4 q6 q3 q8 g1 g2 a1 a2,x∉S):Env p q4 q6 q3 q8 g1 g2 a1 a2 c1 c2 n1 n2 ll dl w':=by
 have k:∀x,x∈[q4,q6,q3,q8,g1,g2]->x∉S:=λx hx=>hn x (by simp only[vH,jw];exact .inl (.inl hx))
 exact⟨f.cell h.c4 (k q4 (by simp)),f.cell h.c6 (k q6 (by simp)),f.cell h.c32 (k q3 (by simp)),f.cell h.c33 (k q3 (by simp)),f.cell h.c8 (k q8 (by simp)),
  Cs.fr h.u1 f (by simpa[af] using k g1 (by simp)),Cs.fr h.u2 f (by simpa[af] using k g2 (by simp)),
  CZ h.r1 f (λx hx=>hn x (by simp only[vH,jw];exact .inl (.inr hx))),CZ h.r2 f (λx hx=>hn x (by simp only[vH,jw];exact .inr hx)),h.l1,h.l2⟩
theorem Env.Hl {p q4 q6 q3 q8 g1 g2:Nat} {a1 a2:OA} {c1 c2 n1 n2:Nat} {ll dl:LN} {w:World} (h:Env p q4 q6 q3 q8 g1 g2 a1 a2 c1 c2 n1 n2 ll dl w) {s:Nat} (hs:s<n1) :
  ∃g o,a1=some ⟨g,o,none⟩/\w.cell? ⟨g,o+s,none⟩=some (.int .i64 (ae ll s:Nat))/\w.cell? ⟨g1,s,none⟩=some (.int .u32 (cN ll s:Nat)):=by
 have hl:s<ll.length:=by rw[<-h.l1];exact hs
 obtain⟨g,o,e,hc⟩:=h.r1.at hl;refine⟨g,o,e,by rw[hc,ae,br hl];rfl,?_⟩;obtain⟨g',o',e',yG⟩:=h.u1.at (by simp[du];omega);simp only[eJ,ru,and_true]at e';obtain⟨rfl,rfl⟩:=e';have:=yG s (.int .u32 (cN ll s:Nat)) (by rw[iM,WY hl];rfl);simpa using this
theorem Env.U3 {p q4 q6 q3 q8 g1 g2:Nat} {a1 a2:OA} {c1 c2 n1 n2:Nat} {ll dl:LN} {w:World} (h:Env p q4 q6 q3 q8 g1 g2 a1 a2 c1 c2 n1 n2 ll dl w) {s:Nat} (hs:s<n2) :
  ∃g o,a2=some ⟨g,o,none⟩/\w.cell? ⟨g,o+s,none⟩=some (.int .i64 (ae dl s:Nat))/\w.cell? ⟨g2,s,none⟩=some (.int .u32 (cN dl s:Nat)):=by
 have hl:s<dl.length:=by rw[<-h.l2];exact hs
 obtain⟨g,o,e,hc⟩:=h.r2.at hl;refine⟨g,o,e,by rw[hc,ae,br hl];rfl,?_⟩;obtain⟨g',o',e',yG⟩:=h.u2.at (by simp[du];omega);simp only[eJ,ru,and_true]at e';obtain⟨rfl,rfl⟩:=e';have:=yG s (.int .u32 (cN dl s:Nat)) (by rw[iM,WY hl];rfl);simpa using this
theorem M4 (p:Nat) (F:LN) (l:List Bool) (ls:LN) (s:Nat) (w:World) (h:Wb w p F l) (hle:∀l∈ls,l<=15) (hw:weight ls<=32768) (hL:l.length<=562949953421200) :
  Calls Tryz.prog 246 #[.pointer (some ⟨p,0,none⟩),.int .u32 (cN ls s:Nat),.int .i64 (ae ls s:Nat)] w (cX p F w (l++cq ls s)):=by
 have h1:=zis p F l (cN ls s) (ae ls s:Nat) w h (by have:=za2 ls s hle hw;omega) hL;have h2:=Bg ls hle s;unfold cq at h2 ⊢;rw[FQ]at h2;rw[C9,uP (by omega)]at h1;exact h1
theorem zbz (p q4 q6 q3 q8 g1 g2:Nat) (a1 a2:OA) (c1 c2 n1 n2:Nat) (ll dl:LN) (F:LN) (l:List Bool) (c:UInt8) (w:World) (h:Env p q4 q6 q3 q8 g1 g2 a1 a2 c1 c2 n1 n2 ll dl w) (hW:Wb w p F l)
  (hle:∀l∈ll,l<=15) (hw:weight ll<=32768) (hn:257<=n1) (hL:l.length<=562949953421200) :
  Calls Tryz.prog 245 #[.int .u8 c.toNat,.pointer none,.pointer (some ⟨q4,0,none⟩),.pointer (some ⟨q6,0,none⟩),.pointer (some ⟨q3,0,none⟩),.pointer (some ⟨q8,0,none⟩)] w (cX p F w (l++gL ll dl (.lit c))):=by
 obtain⟨s,hs⟩:=ai c.toNat;have dE:s<256:=by rw[hs];exact iL _
 rw[<-hs];have wk:=h.r1.le;rw[<-h.l1]at wk;obtain⟨g,o,rfl,d1,d2⟩:=h.Hl (show s<n1 by omega);have d3:=h.c4;have d4:=h.c6;have d5:=h.c32;have bw:=M4 p F l ll s w.drew (y7 hW (Fr.av [] w) (by simp)) hle hw hL;obtain⟨x,hx⟩:=ai (cN ll s);obtain⟨y,hy⟩:=ai (ae ll s);rw[<-hx]at d2 bw;rw[<-hy]at d1 bw;have hg:decide ((n1:Int)<=(s:Int))=false:=by simp;omega
 have HC:=ak bw hs;clear bw h hW hle hw hL hx hy hs;simp only[gL];go_enter Tryz.func245,Tryz.ntmps245;go_upto_region 1 with fail;refine uO 10 (by kernel_rfl) (by kernel_rfl) ?_;simp only[uF];repeat (go_big_quiet_step (fail))
 refine wpQuiet_nil ?_;go_wp2_with (go_at_call 246;refine HC.o0.mono ?_;rintro e w2 ⟨rfl,dR,hb⟩);refine bodyPost_ret (results_none rfl _ _ _) rfl ?_;rw[HC.l1]at hb;exact⟨rfl,(Fr.av F w).trans dR,hb⟩
structure Pg (p:Nat) (F:LN) (w:World) (b:List Bool) (F':LN) (w':World):Prop where
 fr:Fr F w w'
 wb:Wb w' p F' b
 new:∀y∈F',y∈F\/w.heap.size<=y
theorem Pg.start {p:Nat} {F:LN} {w:World} {b:List Bool} (h:Wb w p F b):Pg p F w b F w:=⟨.refl _ _,h,λ_ hy=>.inl hy⟩
theorem Pg.dQ {p:Nat} {F F':LN} {w w1 w2:World} {b:List Bool} (h:Pg p F w b F' w1) (f:Fr [] w1 w2):Pg p F w b F' w2:=⟨h.fr.trans (f.mono (by simp)),y7 h.wb f (by simp),h.new⟩
theorem Pg.step {p:Nat} {F F1:LN} {w w1 w2:World} {b b2:List Bool} (h:Pg p F w b F1 w1) (f:Fr F1 w1 w2) (g:∃F',Wb w2 p F' b2/\∀y∈F',y∈F1\/w1.heap.size<=y):∃F2,Pg p F w b2 F2 w2:=by
 obtain⟨F2,hb,hn⟩:=g;refine⟨F2,h.fr.step f λy hy=>h.new y hy,hb,λy hy=>?_⟩;rcases hn y hy with k|k
 ·exact h.new y k
 ·exact .inr (ck h.fr.size k)
theorem Hv (p:Nat) (F:LN) (l:List Bool) (x n:Nat) (w:World) (h:Wb w p F l) (hx:x<4294967296) (hn:n<=32) (hL:l.length<=562949953421312) :
  Calls Tryz.prog 247 #[.pointer (some ⟨p,0,none⟩),.int .u32 x,.int .i64 n] w (cX p F w (l++dM n x)):=by
 have h1:=UR p F l x (n:Nat) w h hx hL;rwa [C9,uP hn]at h1
theorem zei {w:World} {a:Addr} {v:Value} (h:w.cell? a=some v):a.block<w.heap.size:=by
 rcases kI a.block w.heap.size with k|k
 ·exact k
 ·unfold World.cell? at h;rw[Array.getElem?_eq_none k]at h;simp at h
theorem zby (p q4 q6 q3 q8 g1 g2 g o:Nat) (a1 a2:OA) (c1 c2 n1 n2:Nat) (ll dl:LN) (F:LN) (l:List Bool) (n d:Nat) (w:World) (h:Env p q4 q6 q3 q8 g1 g2 a1 a2 c1 c2 n1 n2 ll dl w) (hW:Wb w p F l)
  (hle:∀l∈ll,l<=15) (hw:weight ll<=32768) (jd:∀l∈dl,l<=15) (bL:weight dl<=32768) (hn:286<=n1) (jM:30<=n2) (hL:l.length<=562949953421000)
  (hE:∀x∈vH q4 q6 q3 q8 g1 g2 a1 a2,x∉F/\x<w.heap.size) (h3:3<=n) (iJ:n<=258) (h1:1<=d) (hd:d<=32768) (hg:g∉F)
  (e1:w.cell? ⟨g,o+1,none⟩=some (.int .i64 n)) (e2:w.cell? ⟨g,o+2,none⟩=some (.int .i64 d)) :
  Calls Tryz.prog 245 #[.int .u8 0,.pointer (some ⟨g,o,none⟩),.pointer (some ⟨q4,0,none⟩),.pointer (some ⟨q6,0,none⟩),.pointer (some ⟨q3,0,none⟩),.pointer (some ⟨q8,0,none⟩)] w (cX p F w (l++gL ll dl (.mat n d))):=by
 have hlen:=SD n w h3 iJ;have bg:=Nw h3 iJ;have EV:=Nq h1 hd;have yB:=zei e2;simp only at yB;unfold Triple at hlen;simp only[gL];obtain⟨s,hs⟩:=ai ((bJ n).1);obtain⟨m,hm⟩:=ai ((bJ n).2.1);obtain⟨v,hv⟩:=ai ((bJ n).2.2);obtain⟨s2,dE⟩:=ai ((cF d).1);obtain⟨m2,iy⟩:=ai ((cF d).2.1);obtain⟨v2,wg⟩:=ai ((cF d).2.2);rw[<-hs,<-hm,<-hv]at bg hlen ⊢;rw[<-dE,<-iy,<-wg]at EV ⊢;have oM:m<4294967296:=eW bg.2.2.2 (ck (kh (by decide) bg.2.2.1) (by decide));have Pq:m2<4294967296:=eW EV.2.2 (ck (kh (by decide) EV.2.1) (by decide));have wk:=h.r1.le;rw[<-h.l1]at wk;have xm:=h.r2.le;rw[<-h.l2]at xm;have kS:=Bg ll hle s;have kS2:=Bg dl jd s2;have H:=dk h hW hE hlen yB hg e2;have HB:=lv bg EV oM Pq hle hw jd bL;have HD:=aQ dE iy wg h1 hd;have HL:=aw hL kS kS2;have hsl:s<n1:=by omega
 have zv:s2<n2:=by omega
 clear h hW hE hlen yB hg e2 bg EV oM Pq hle hw jd bL hs hm hv dE iy wg h1 hd h3 iJ hL kS kS2;go_enter Tryz.func245,Tryz.ntmps245;go_upto_region 3 with (go_at_call 158;refine H.o3.mono ?_;rintro e w1 ⟨rfl,f1⟩;have H1:=ah f1;clear f1);clear e1;have QQ:=H.o0.fr H1.out (by simp);obtain⟨ga,oa,ea,d1,d2⟩:=QQ.Hl hsl;subst ea;have d3:=QQ.c4;have d4:=QQ.c6;have d5:=QQ.c32;have bw:=M4 p F l ll s w1.drew (y7 H.o1 (H1.out.trans (Fr.av [] w1)) (by simp)) HB.o4 HB.o5 (by have:=HL.o0;omega);obtain⟨x,hx⟩:=ai (cN ll s);obtain⟨y,hy⟩:=ai (ae ll s);rw[<-hx]at d2 bw;rw[<-hy]at d1 bw;have hg:decide ((n1:Int)<=(s:Int))=false:=by simp;omega
 have HC:=ah bw;clear bw hx hy QQ;refine uO 10 (by kernel_rfl) (by kernel_rfl) ?_;simp only[uF];repeat (go_big_quiet_step (fail))
 refine wpQuiet_nil ?_;clear d1 d2 d3 d4 d5 hg;go_upto_region 4 with (go_at_call 246;refine HC.out.mono ?_;rintro e w2 ⟨rfl,f2,g2'⟩;have H2:=ah (Pg.step (Pg.dQ (Pg.start H.o1) (H1.out.trans (Fr.av [] w1))) f2 g2');clear f2 g2');obtain⟨F2,mN⟩:=H2.out;have ev2:=H.o0.fr mN.fr λx hx=>(H.o2 x hx).1
 have d3:=ev2.c4;have qE:=Hv p F2 _ m v w2 mN.wb HB.o2 (by have:=HB.o0.2.2.1;omega) (by rw[aA];have:=HL.out;omega);have Hf:=ah qE;clear ev2 qE;go_upto_region 5 with (go_at_call 247;refine Hf.out.mono ?_;rintro e w3 ⟨rfl,f3,g3⟩;have H3:=ah (Pg.step mN f3 g3);clear f3 g3);clear d3;obtain⟨F3,AA⟩:=H3.out;have e2:=AA.fr.cell H.l6 H.o5;have zJ:=S9 d w3 HD.o3 HD.l4;unfold Triple at zJ;rw[<-HD.o0,<-HD.o1,<-HD.o2]at zJ;have HDI:=ah zJ;have CR:=ah AA;clear zJ AA mN;go_upto_region 6 with (go_at_call 159;refine HDI.out.mono ?_;rintro e w4 ⟨rfl,f4⟩;have H4:=ah f4;clear f4);clear e2;have Jh:=CR.out.dQ H4.out;have QP:=H.o0.fr Jh.fr λx hx=>(H.o2 x hx).1
 obtain⟨gb,ob,eb,d1,d2⟩:=QP.U3 zv;subst eb;have d3:=QP.c4;have d4:=QP.c8;have d5:=QP.c33;have bw:=M4 p F3 _ dl s2 w4.drew (Jh.dQ (Fr.av [] w4)).wb HB.o6 HB.l7 (by rw[aA,aA,ax];have:=HL.out;have:=HB.o0.2.2.1;omega);obtain⟨x2,kt⟩:∃x,x=cN dl s2:=⟨_,rfl⟩;obtain⟨y2,lb⟩:∃y,y=ae dl s2:=⟨_,rfl⟩;rw[<-kt]at d2 bw;rw[<-lb]at d1 bw;have hg:decide ((n2:Int)<=(s2:Int))=false:=by simp;omega
 have HC4:=ah bw;have HP4:=ah Jh;clear bw kt lb QP Jh;refine uO 10 (by kernel_rfl) (by kernel_rfl) ?_;simp only[uF];repeat (go_big_quiet_step (fail))
 refine wpQuiet_nil ?_;clear d1 d2 d3 d4 d5 hg;go_upto_region 7 with (go_at_call 246;refine HC4.out.mono ?_;rintro e w5 ⟨rfl,f5,g5⟩;have H5:=ah (Pg.step (HP4.out.dQ (Fr.av [] w4)) f5 g5);clear f5 g5);obtain⟨F5,TC⟩:=H5.out;have ev5:=H.o0.fr TC.fr λx hx=>(H.o2 x hx).1
 have d3:=ev5.c4;have qE:=Hv p F5 _ m2 v2 w5 TC.wb HB.o3 (by have:=HB.o1.2.1;omega) (by rw[aA,aA,aA,ax];have:=HL.out;have:=HB.o0.2.2.1;omega);have HC5:=ah qE;have HP5:=ah TC;clear ev5 qE TC;go_wp2_with (go_at_call 247;refine HC5.out.mono ?_;rintro e w6 ⟨rfl,f6,g6⟩;have H6:=ah (Pg.step HP5.out f6 g6);clear f6 g6);(try simp only[Exit.inBlock,Exit.then]);refine bodyPost_end (results_none rfl _ _ _) rfl ?_;obtain⟨F6,Yz⟩:=H6.out;refine⟨rfl,Yz.fr,F6,?_,Yz.new⟩;have:=Yz.wb;simpa only[eE] using this
def kV (ls:LN) (least:Nat):Nat->Nat
 | 0=>0
 | n+1=>if least<n+1/\ae ls n=0 then kV ls least n else n+1
theorem Ig (ls:LN) (least:Nat):∀n,kV ls least n<=n
 | 0=>ay _
 | n+1=>by
  unfold kV;split
  ·exact Nat.le_succ_of_le (Ig ls least n)
  ·exact ay _
theorem Nj (ls:LN) (least:Nat):∀n,least<=n->least<=kV ls least n
 | 0,h=>by
  have:least=0:=by omega
  rw[this];exact ep _
 | n+1,h=>by
  unfold kV;split
  ·rename_i hc;exact Nj ls least n (by omega)
  ·exact h
theorem Wz (ls:LN) (least:Nat):∀n i,kV ls least n<=i->i<n->ae ls i=0
 | 0,i,_,h=>by omega
 | n+1,i,h1,h2=>by
  unfold kV at h1;split at h1
  ·rename_i hc;rcases kI i n with k|k
   ·exact Wz ls least n i h1 k
   ·rw[show i=n from by omega];exact hc.2
  ·omega
theorem zas (a:OA) (cap:Nat) (ls:LN) (least:Nat) (w:World) (h:Ri w a cap ls) (hlen:ls.length<=1000000) (hle:least<=1000000) :
  Calls Tryz.prog 248 #[.slice a ls.length cap,.int .i64 least] w λe w'=>e = .returned (.slice a (kV ls least ls.length) cap)/\w'=w:=by
 obtain⟨N,hN⟩:=ai ls.length;obtain⟨R,hR⟩:=ai (kV ls least ls.length);have hNc:=h.le;rw[<-hN]at hlen hNc ⊢;rw[<-hN]at hR;have hRN:R<=N:=by rw[hR];exact Ig _ _ _
 have hmx:cap<=9223372036854775807:=h.max;rw[<-hR];have tI:=h.nil;have H:=aG h hN hR tI;clear h hN hR tI;go_enter Tryz.func248,Tryz.ntmps248;go_wp2;go_loopg [5] N (λk s5 wr=>s5 = .int .i64 (k:Nat)/\k<=N/\R<=k/\kV ls least k=R/\w=wr);case atStart=>exact⟨rfl,ay _,hRN,H.out.2.2.1.symm,rfl⟩
 case round=>
  obtain⟨rfl,hk,hRk,kQ,rfl⟩:=hrel;by_cases hl:least<gk
  ·obtain⟨k,rfl⟩:∃k,gk=k+1:=⟨gk-1,by omega⟩;have oO:k<ls.length:=by rw[<-H.out.2.1];omega
   obtain⟨g,o,rfl,hc⟩:=H.out.1.at oO;have fH:ae ls k=ls[k]:=by unfold ae;rw[br oO];rfl
   rw[<-fH]at hc;obtain⟨v,hv⟩:=ai (ae ls k);rw[<-hv]at hc;have e1:((k+1:Nat):Int)-1=(k:Int):=by omega
   have g1:decide ((N:Int)<=(k:Int))=false:=by simp;omega
   unfold kV at kQ;rw[<-hv]at kQ;obtain⟨k1,yz⟩:=ai (k+1);rw[<-yz]at hl hk hRk e1 ⊢;have HK:=ah yz;clear fH hv yz;by_cases u6:v=0
   ·rw[if_pos ⟨by have:=HK.out;omega,u6⟩]at kQ;have q:((v:Int)==0)=true:=by simp[u6]
    have HC:=ah kQ;clear kQ;go_wp2;go_roundg k;case measure=>have:=HK.out;omega
    case rel=>exact⟨by go_num,by have:=HK.out;omega,by have h:=Ig ls least k;have:=HC.out;omega,HC.out,rfl⟩
   ·rw[if_neg (λhh=>u6 hh.2)]at kQ;have q:((v:Int)==0)=false:=by simp only[beq_eq_false_iff_ne];omega
    obtain rfl:k1=R:=by have:=HK.out;omega
    clear kQ;go_wp2;go_ret;exact⟨rfl,rfl⟩
  ·have e:kV ls least gk=gk:=by
    cases gk with
    | zero=>rfl
    | succ n=>unfold kV;rw[if_neg (by omega)]
   obtain rfl:gk=R:=by omega
   have q:decide ((least:Int)<(gk:Int))=false:=by simp;omega
   clear e kQ;cases a with
   | none=>
    have h0:=H.out.2.2.2 rfl;obtain rfl:cap=0:=h0;obtain rfl:gk=0:=by omega
    go_wp2;go_ret;exact⟨rfl,rfl⟩
   | some ad=>obtain⟨g,o,s⟩:=ad;go_wp2;go_ret;exact⟨rfl,rfl⟩
abbrev Rn:=Nat×Nat×Nat
def dw (l:List Rn):List Value:=l.flatMap λx=>[.int .i64 (x.1:Nat),.int .u32 (x.2.1:Nat),.int .i64 (x.2.2:Nat)]
theorem Gb (a b:List Rn):dw (a++b)=dw a++dw b:=by simp[dw]
theorem Wu:∀(l:List Rn) (i:Nat) (x:Rn),l[i]?=some x->(dw l)[i*3]?=some (.int .i64 (x.1:Nat))/\(dw l)[i*3+1]?=some (.int .u32 (x.2.1:Nat))/\(dw l)[i*3+2]?=some (.int .i64 (x.2.2:Nat))
 | [],i,x,h=>by simp at h
 | y::l,0,x,h=>by
  simp only[aT,eJ]at h;subst h;exact⟨rfl,rfl,rfl⟩
 | y::l,i+1,x,h=>by have:=Wu l i x (by simpa using h);rw[show (i+1)*3=i*3+3 from by omega];exact this
def kU (out:LN) (r:Rn):List Nat:=
 if r.1<16 then out++[r.1] else if r.1=16 then out++List.replicate (3+r.2.1) (out.getLast?.getD 0) else if r.1=17 then out++List.replicate (3+r.2.1) 0 else out++List.replicate (11+r.2.1) 0
def okR (out:LN) (r:Rn):Prop:=
 (r.1<=15/\r.2.1=0/\r.2.2=0)\/(r.1=16/\r.2.1<4/\r.2.2=2/\out≠[])\/(r.1=17/\r.2.1<8/\r.2.2=3)\/(r.1=18/\r.2.1<128/\r.2.2=7)
def bT:List Nat->List Rn->List Nat->Prop
 | out,[],fin=>out=fin
 | out,r::rs,fin=>okR out r/\bT (kU out r) rs fin
theorem bT.add:∀{rs:List Rn} {out mid:LN} {r:Rn},bT out rs mid->okR mid r->bT out (rs++[r]) (kU mid r)
 | [],out,mid,r,h,k=>by obtain rfl:out=mid:=h;exact⟨k,rfl⟩
 | x::rs,out,mid,r,h,k=>⟨h.1,bT.add h.2 k⟩
theorem zd3 (out:LN) (r:Rn):out.length+1<=(kU out r).length:=by
 unfold kU;split
 ·simp
 ·split
  ·simp;omega
  ·split<;>simp<;>omega
theorem bT.len:∀{rs:List Rn} {out fin:LN},bT out rs fin->out.length+rs.length<=fin.length
 | [],out,fin,h=>by obtain rfl:out=fin:=h;simp
 | x::rs,out,fin,h=>by have h1:=bT.len h.2;have h2:=zd3 out x;simp only[bU];omega
def gp (base:LN) (x d:Nat):List Nat:=base++List.replicate d x
theorem V8 (base:LN) (x d:Nat):(gp base x d).length=base.length+d:=by simp[gp]
theorem qy2 (base:LN) (x d:Nat) (h:1<=d):(gp base x d).getLast?.getD 0=x:=by obtain⟨e,rfl⟩:∃e,d=e+1:=⟨d-1,by omega⟩;unfold gp;rw[Ix,<-eE,List.getLast?_append];simp
theorem qy1 (base:LN) (x d:Nat) (h:1<=d):gp base x d≠[]:=by intro e;have:=congrArg List.length e;rw[V8]at this;simp at this;omega
theorem Ny (base:LN) (x d k:Nat):gp base x d++List.replicate k x=gp base x (d+k):=by unfold gp;rw[eE,List.replicate_append_replicate]
theorem zan (base:LN) (x d:Nat) (hx:x<=15):kU (gp base x d) (x,0,0)=gp base x (d+1):=by unfold kU;rw[if_pos (by simp only;omega)];exact Ny base x d 1
theorem zfc (base:LN) (x d k:Nat) (h:1<=d) (hk:3<=k):kU (gp base x d) (16,k-3,2)=gp base x (d+k):=by unfold kU;rw[if_neg (by simp),if_pos rfl,qy2 base x d h];simp only;rw[show 3+(k-3)=k from by omega];exact Ny base x d k
theorem zfb (base:LN) (d k:Nat) (hk:3<=k):kU (gp base 0 d) (17,k-3,3)=gp base 0 (d+k):=by unfold kU;rw[if_neg (by simp),if_neg (by simp),if_pos rfl];simp only;rw[show 3+(k-3)=k from by omega];exact Ny base 0 d k
theorem zfa (base:LN) (d k:Nat) (hk:11<=k):kU (gp base 0 d) (18,k-11,7)=gp base 0 (d+k):=by unfold kU;rw[if_neg (by simp),if_neg (by simp),if_neg (by simp)];simp only;rw[show 11+(k-11)=k from by omega];exact Ny base 0 d k
theorem qus (ls:LN) (i:Nat):∀n,i+n<=ls.length->(∀j,j<n->ae ls (i+j)=ae ls i)->ls.take (i+n)=gp (ls.take i) (ae ls i) n
 | 0,_,_=>by simp[gp]
 | n+1,h1,h2=>by
  have ih:=qus ls i n (by omega) λj hj=>h2 j (by omega)
  have hl:i+n<ls.length:=by omega
  have e:ls[i+n]=ae ls i:=by rw[<-h2 n (by omega)];unfold ae;rw[br hl];rfl
  rw[show i+(n+1)=i+n+1 from rfl,Ef hl,ih,e];exact Ny (ls.take i) (ae ls i) n 1
theorem oC:az Tryz.prog 341 344 (.agg #[.int .i64 0,.int .u32 0,.int .i64 0]) 3 24:=az.of Tryz.underlying341 (by kernel_rfl) rfl (by decide)
theorem Fz (w:World) (x y z:Value) (T:TypeId):Cs (w.alloc (.cells #[x,y,z] T)) (some ⟨w.heap.size,0,none⟩) [x,y,z]:=by refine .inr ⟨_,0,rfl,λj v hv=>?_⟩;rw[cell_of (bC w _),ft];simpa using hv
theorem uV {x y z:Value} (hx:x.oneCell'=true) (hy:y.oneCell'=true) (hz:z.oneCell'=true):∀u∈[x,y,z],u.oneCell'=true:=by
 intro u hu;simp only[fP,wL,or_false]at hu;rcases hu with rfl|rfl|rfl
 ·exact hx
 ·exact hy
 ·exact hz
theorem zcl (a:OA) (cap:Nat) (ls:LN) (w:World) (h:Ri w a cap ls) (hlen:ls.length<=100000) (pz:∀l∈ls,l<=15) :
  Calls Tryz.prog 249 #[.slice a ls.length cap] w λe w'=>∃ao rn cp rs,e = .returned (.slice ao rn cp)/\rn=rs.length/\Made w w' 344 3 ao rn cp (dw rs)/\bT [] rs ls:=by
 obtain⟨N,hN⟩:=ai ls.length;rw[<-hN]at hlen ⊢;have H:=aw h hN pz;clear h hN pz;go_enter Tryz.func249,Tryz.ntmps249;go_wp2;go_loopg [3,4,5,6,7,62,72,87] N (λk s3 s4 s5 s6 s7 s62 s72 s87 wr=>∃(i:Nat) (ao:OA) (rn cp:Nat) (rs:List Rn),s4 = .int .i64 (i:Nat)/\s3 = .slice ao rn cp/\k=N-i/\i<=N/\rn=rs.length/\Made w wr 344 3 ao rn cp (dw rs)/\bT [] rs (ls.take i));case atStart=>exact⟨0,none,0,0,[],rfl,rfl,rfl,ep _,rfl,.none w _ _,rfl⟩
 case round=>
  obtain⟨i,ao,rn,cp,rs,rfl,rfl,hk,hiN,jS,hm,fG⟩:=hrel;by_cases hi:i<N
  ·have eO:i<ls.length:=by rw[<-H.out.2.1];exact hi
   obtain⟨g,o,rfl,hc⟩:=(H.out.1.fr hm.fr).at eO;have fH:∀j,j<ls.length->ls[j]?=some (ae ls j):=λj hj=>by unfold ae;rw[br hj];rfl
   have iZ:ae ls i<=15:=H.out.2.2 _ (FG eO);have hcell:∀j,j<N->wr.cell? ⟨g,o+j,none⟩=some (.int .i64 (ae ls j:Nat)):=λj hj=>by obtain⟨g',o',e,yG⟩:=(H.out.1.fr hm.fr).at (i:=j) (by rw[<-H.out.2.1];exact hj);simp only[eJ,ru,and_true]at e;obtain⟨rfl,rfl⟩:=e;rw[yG,<-(lA ((br (by rw[<-H.out.2.1];exact hj)).symm.trans (fH j (by rw[<-H.out.2.1];exact hj))))]
   have HI:=aQ hm fG hk jS hcell;have HX:=ah iZ;obtain⟨x,hx⟩:=ai (ae ls i);have dx:=hcell i hi;rw[<-hx]at dx;have UG:=ah hx;clear hm fG hk jS hcell fH hc iZ hx eO;obtain⟨wo,tF⟩:∃wo:World,wo=wr:=⟨_,rfl⟩;have MC:=ah tF;rw[<-tF]at dx ⊢;clear tF;go_wp2;go_loopg [5] (N-1) (λk s5 wz=>∃n:Nat,s5 = .int .i64 (n:Nat)/\1<=n/\i+n<=N/\k=N-n/\(∀j,j<n->ae ls (i+j)=ae ls i)/\Fr [] wo wz);case atStart=>exact⟨1,rfl,ay _,by omega,rfl,λj hj=>by rw[show j=0 from by omega,ie],.refl _ _⟩
   case round=>
    obtain⟨n,rfl,wk,hnN,rH,aD,yD⟩:=hrel;obtain⟨y,hy⟩:=ai (i+n);have e0:(i:Int)+(n:Int)=(y:Int):=by omega
    have dx2:=yD.cell dx (by simp);have key:(y<N/\ae ls y=x)\/(y<N/\ae ls y≠x)\/N<=y:=by omega
    have qC:(y<N/\ae ls y=x)\/((y<N/\ae ls y≠x)\/N<=y):=key;clear key;rcases qC with⟨IY,Dm⟩|qC
    ·have dy:=(HI.l4 y IY);rw[<-MC.out,Dm]at dy;have dy2:=yD.cell dy (by simp);have q:((x:Int)==(x:Int))=true:=by simp
     have g1:decide ((N:Int)<=(y:Int))=false:=by simp;omega
     have g2:decide ((N:Int)<=(i:Int))=false:=by simp;omega
     have g3:decide ((y:Int)<(N:Int))=true:=by simp;omega
     have HK:=aQ aD yD hy rH Dm;clear aD yD hy rH dy Dm;go_upto_region 5 with fail;go_quiet (fail);go_wp2;go_roundg (N-(n+1));case measure=>have:=HK.out.2.2.2.1;have:=HK.out.2.2.1;omega
     case rel=>
      obtain⟨aD,yD,hy,rH,Dm⟩:=HK.out;refine⟨n+1,by go_num,by omega,by omega,rfl,λj hj=>?_,yD.trans (Fr.drewN [] _ _)⟩;rcases kI j n with k|k
      ·exact aD j k
      ·rw[show j=n from by omega,<-hy,Dm,UG.out]
    ·have wW:(y<N/\decide (y<N)=true)\/N<=y:=by rcases qC with k|k;exact .inl ⟨k.1,by simp[k.1]⟩;exact .inr k
     have hyB:y<=100000:=by omega
     have IY:y<=N:=by omega
     have HK:=aQ aD yD hy rH qC;clear aD yD rH qC hy;go_upto_region 5 with fail;go_cut [30] from 12 to 31 (λs30 wd=>s30 = .bool false/\Fr [] wr wd)
     case first=>
      rcases HK.out.2.2.2.2 with⟨IY,Dm⟩|IY
      ·have dy:=(HI.l4 y IY);obtain⟨v,hv⟩:=ai (ae ls y);rw[<-MC.out,<-hv]at dy;rw[<-hv]at Dm;have dy2:=HK.out.2.1.cell dy (by simp);have q:((v:Int)==(x:Int))=false:=by simp only[beq_eq_false_iff_ne];omega
       have g1:decide ((N:Int)<=(y:Int))=false:=by simp;omega
       have g2:decide ((N:Int)<=(i:Int))=false:=by simp;omega
       have g3:decide ((y:Int)<(N:Int))=true:=by simp;omega
       clear dy hv Dm wW;go_quiet (fail);go_wp2;go_meet;exact⟨rfl,Fr.drewN [] _ _⟩
      ·have g3:decide ((y:Int)<(N:Int))=false:=by simp;omega
       have g4:decide (y<N)=false:=by simp;omega
       have ew:IntKind.i64.wrap (y:Int)=(y:Int):=by rw[oE];omega
       clear wW IY;go_quiet (fail);go_wp2;go_meet;exact⟨rfl,Fr.drewN [] _ _⟩
     case rest=>
     obtain⟨rfl,ES⟩:=hcut;have dx3:=ES.cell dx2 (by simp);have g2:decide ((N:Int)<=(i:Int))=false:=by simp;omega
     obtain⟨wd,yo⟩:∃wd:World,wd=wc:=⟨_,rfl⟩;rw[<-yo]at dx3 ES ⊢;have fd:=HK.out.2.1.trans ES;have cH:ls.take y=gp (ls.take i) x n:=by obtain⟨aD,yD,hy,rH,_⟩:=HK.out;rw[hy,UG.out];exact qus ls i n (by rw[<-H.out.2.1];omega) aD
     have iZ:x<=15:=by rw[UG.out];exact HX.out
     have xu:=HI.o0;rw[<-MC.out]at xu;have HD:=cJ cH (xu.eG fd) HI.o1 HI.o3 HI.o2 HK.out.2.2.1;have Ex:rn<=100000:=by have:=HI.o1.len;rw[dU,<-HI.o3]at this;simp at this;omega
     clear HK HI HX UG MC cH xu fd ES yo dx2 dx wW;go_upto_if 41 with fail;clear dx3 g2;go_cut [3,5] from 41 to 49 (λs3 s5 wz=>∃(rem d:Nat) (ao:OA) (rn cp:Nat) (rs:List Rn),s5 = .int .i64 (rem:Nat)/\s3 = .slice ao rn cp/\rem+d=n/\(0<x->1<=d)/\rn=rs.length/\Made w wz 344 3 ao rn cp (dw rs)/\bT [] rs (gp (ls.take i) x d))
     case first=>
      by_cases iD:0<x
      ·have q:decide ((0:Int)<(x:Int))=true:=by simp;omega
       obtain⟨n1,Pp⟩:∃n1,n1=n-1:=⟨_,rfl⟩;have e1:(n:Int)-1=(n1:Int):=by omega
       have HN1:=ah Pp;clear Pp;go_wp2_with (refine gM oC rfl _ _ rfl (.slice ao rn cp) rn (dw rs) (af ao) rfl (dD ao rn cp) (HD.o1.eG ((Fr.refl [] _).alloc _)).own (some ⟨wd.heap.size,0,none⟩) 1 1 [.int .i64 x,.int .u32 0,.int .i64 0] (by first|rfl|simp) (ay _) (λh=>by cases h) (Fz _ _ _ _ _) rfl (uV (by rfl) (by rfl) (by rfl)) (by omega) (by unfold maxLen;omega) ?_;intro dv gg w2 bN;have HA:=ah ((HD.o1.eG ((Fr.refl [] _).alloc _)).app bN);clear bN);go_meet;have:=HN1.out;refine⟨n1,1,dv,rn+1,gg,rs++[(x,0,0)],rfl,rfl,by omega,λ_=>ay _,by rw[aA,HD.o3];rfl,by rw[Gb];exact HA.out,?_⟩;have h1:=bT.add HD.o2 (r:=(x,0,0)) (.inl ⟨iZ,rfl,rfl⟩);have h2:=zan (ls.take i) x 0 iZ;rw[show gp (ls.take i) x 0=ls.take i from by simp[gp]]at h2;rwa [h2]at h1
      ·obtain rfl:x=0:=by omega
       go_wp2;go_meet;exact⟨n,0,ao,rn,cp,rs,rfl,rfl,rfl,λh=>absurd h (by omega),HD.o3,HD.o1,by rw[show gp (ls.take i) 0 0=ls.take i from by simp[gp]];exact HD.o2⟩
     case rest=>
     obtain⟨rem,d,ao,rn,cp,rs,rfl,rfl,di,og,jS,hm,fG⟩:=hcut;have HR:=aQ di og jS hm fG;have zaM:rem<=100000:=by omega
     clear di og jS hm fG Ex;go_wp2;go_loopg [3,5,7,62,72] rem (λk s3 s5 s7 s62 s72 wz=>∃(d:Nat) (ao:OA) (rn cp:Nat) (rs:List Rn),s5 = .int .i64 (k:Nat)/\s3 = .slice ao rn cp/\k+d=n/\(0<x->1<=d)/\rn=rs.length/\Made w wz 344 3 ao rn cp (dw rs)/\bT [] rs (gp (ls.take i) x d));case atStart=>exact⟨d,ao,rn,cp,rs,rfl,rfl,HR.out⟩
     case round=>
      obtain⟨d,ao,rn,cp,rs,rfl,rfl,di,og,jS,hm,fG⟩:=hrel;have Ex:rn<=200000:=by have:=fG.len;rw[V8,dU]at this;have:=H.out.2.1;simp only[kg]at *;omega
      have hgk:gk<=100000:=by omega
      have HZ:=aQ di og jS hm fG;clear di og jS hm fG;by_cases h3:3<=gk
      ·by_cases iD:0<x
       ·by_cases h6:6<gk
        ·obtain⟨m,hm⟩:=ai (6-3);obtain⟨q,hq⟩:=ai (gk-6);have em:((6:Nat):Int)-3=(m:Int):=by omega
         have eq:(gk:Int)-((6:Nat):Int)=(q:Int):=by omega
         have oM:m<=1000:=by omega
         have vg:q<gk:=by omega
         have HM:=ak hm hq;clear hm hq;go_wp2_with (refine gM oC rfl _ _ rfl (.slice ao rn cp) rn (dw rs) (af ao) rfl (dD ao rn cp) (HZ.out.2.2.2.1.eG ((Fr.refl [] _).alloc _)).own (some ⟨wr.heap.size,0,none⟩) 1 1 [.int .i64 16,.int .u32 3,.int .i64 2] (by first|rfl|simp) (ay _) (λh=>by cases h) (Fz _ _ _ _ _) rfl (uV (by rfl) (by rfl) (by rfl)) (by omega) (by unfold maxLen;omega) ?_;intro dv gg w2 bN;have HA:=ah ((HZ.out.2.2.2.1.eG ((Fr.refl [] _).alloc _)).app bN);clear bN);go_roundg q;case measure=>exact vg
         case rel=>obtain⟨di,og,jS,lF,fG⟩:=HZ.out;obtain⟨hm,hq⟩:=HM.out;refine⟨d+6,dv,rn+1,gg,rs++[(16,3,2)],by go_num,rfl,by omega,λh=>by omega,by rw[aA,jS];rfl,by rw[Gb];exact HA.out,?_⟩;have h1:=bT.add fG (r:=(16,3,2)) (.inr (.inl ⟨rfl,by show 3<4;omega,rfl,qy1 _ _ _ (og (by omega))⟩));have h2:=zfc (ls.take i) x d 6 (og (by omega)) (by omega);rw[h2]at h1;exact h1
        ·obtain⟨m,hm⟩:=ai (gk-3);obtain⟨q,hq⟩:=ai (gk-gk);have em:((gk:Nat):Int)-3=(m:Int):=by omega
         have eq:(gk:Int)-((gk:Nat):Int)=(q:Int):=by omega
         have oM:m<=1000:=by omega
         have vg:q<gk:=by omega
         have HM:=ak hm hq;clear hm hq;go_wp2_with (refine gM oC rfl _ _ rfl (.slice ao rn cp) rn (dw rs) (af ao) rfl (dD ao rn cp) (HZ.out.2.2.2.1.eG ((Fr.refl [] _).alloc _)).own (some ⟨wr.heap.size,0,none⟩) 1 1 [.int .i64 16,.int .u32 m,.int .i64 2] (by first|rfl|simp) (ay _) (λh=>by cases h) (Fz _ _ _ _ _) rfl (uV (by rfl) (by rfl) (by rfl)) (by omega) (by unfold maxLen;omega) ?_;intro dv gg w2 bN;have HA:=ah ((HZ.out.2.2.2.1.eG ((Fr.refl [] _).alloc _)).app bN);clear bN);go_roundg q;case measure=>exact vg
         case rel=>obtain⟨di,og,jS,lF,fG⟩:=HZ.out;obtain⟨hm,hq⟩:=HM.out;refine⟨d+gk,dv,rn+1,gg,rs++[(16,m,2)],by go_num,rfl,by omega,λh=>by omega,by rw[aA,jS];rfl,by rw[Gb];exact HA.out,?_⟩;have h1:=bT.add fG (r:=(16,m,2)) (.inr (.inl ⟨rfl,by show m<4;omega,rfl,qy1 _ _ _ (og (by omega))⟩));have h2:=zfc (ls.take i) x d gk (og (by omega)) (by omega);rw[<-hm]at h2;rw[h2]at h1;exact h1
       ·obtain rfl:x=0:=by omega
        by_cases uD:gk<11
        ·by_cases h6:6<gk
         ·obtain⟨m,hm⟩:=ai (gk-3);obtain⟨q,hq⟩:=ai (gk-gk);have em:((gk:Nat):Int)-3=(m:Int):=by omega
          have eq:(gk:Int)-((gk:Nat):Int)=(q:Int):=by omega
          have oM:m<=1000:=by omega
          have vg:q<gk:=by omega
          have HM:=ak hm hq;clear hm hq;go_wp2_with (refine gM oC rfl _ _ rfl (.slice ao rn cp) rn (dw rs) (af ao) rfl (dD ao rn cp) (HZ.out.2.2.2.1.eG ((Fr.refl [] _).alloc _)).own (some ⟨wr.heap.size,0,none⟩) 1 1 [.int .i64 17,.int .u32 m,.int .i64 3] (by first|rfl|simp) (ay _) (λh=>by cases h) (Fz _ _ _ _ _) rfl (uV (by rfl) (by rfl) (by rfl)) (by omega) (by unfold maxLen;omega) ?_;intro dv gg w2 bN;have HA:=ah ((HZ.out.2.2.2.1.eG ((Fr.refl [] _).alloc _)).app bN);clear bN);go_roundg q;case measure=>exact vg
          case rel=>obtain⟨di,og,jS,lF,fG⟩:=HZ.out;obtain⟨hm,hq⟩:=HM.out;refine⟨d+gk,dv,rn+1,gg,rs++[(17,m,3)],by go_num,rfl,by omega,λh=>by omega,by rw[aA,jS];rfl,by rw[Gb];exact HA.out,?_⟩;have h1:=bT.add fG (r:=(17,m,3)) (.inr (.inr (.inl ⟨rfl,by show m<8;omega,rfl⟩)));have h2:=zfb (ls.take i) d gk (by omega);rw[<-hm]at h2;rw[h2]at h1;exact h1
         ·obtain⟨m,hm⟩:=ai (gk-3);obtain⟨q,hq⟩:=ai (gk-gk);have em:((gk:Nat):Int)-3=(m:Int):=by omega
          have eq:(gk:Int)-((gk:Nat):Int)=(q:Int):=by omega
          have oM:m<=1000:=by omega
          have vg:q<gk:=by omega
          have HM:=ak hm hq;clear hm hq;go_wp2_with (refine gM oC rfl _ _ rfl (.slice ao rn cp) rn (dw rs) (af ao) rfl (dD ao rn cp) (HZ.out.2.2.2.1.eG ((Fr.refl [] _).alloc _)).own (some ⟨wr.heap.size,0,none⟩) 1 1 [.int .i64 17,.int .u32 m,.int .i64 3] (by first|rfl|simp) (ay _) (λh=>by cases h) (Fz _ _ _ _ _) rfl (uV (by rfl) (by rfl) (by rfl)) (by omega) (by unfold maxLen;omega) ?_;intro dv gg w2 bN;have HA:=ah ((HZ.out.2.2.2.1.eG ((Fr.refl [] _).alloc _)).app bN);clear bN);go_roundg q;case measure=>exact vg
          case rel=>obtain⟨di,og,jS,lF,fG⟩:=HZ.out;obtain⟨hm,hq⟩:=HM.out;refine⟨d+gk,dv,rn+1,gg,rs++[(17,m,3)],by go_num,rfl,by omega,λh=>by omega,by rw[aA,jS];rfl,by rw[Gb];exact HA.out,?_⟩;have h1:=bT.add fG (r:=(17,m,3)) (.inr (.inr (.inl ⟨rfl,by show m<8;omega,rfl⟩)));have h2:=zfb (ls.take i) d gk (by omega);rw[<-hm]at h2;rw[h2]at h1;exact h1
        ·have h6:6<gk:=by omega
         by_cases h138:138<gk
         ·obtain⟨m,hm⟩:=ai (138-11);obtain⟨q,hq⟩:=ai (gk-138);have em:((138:Nat):Int)-11=(m:Int):=by omega
          have eq:(gk:Int)-((138:Nat):Int)=(q:Int):=by omega
          have oM:m<=1000:=by omega
          have vg:q<gk:=by omega
          have HM:=ak hm hq;clear hm hq;go_wp2_with (refine gM oC rfl _ _ rfl (.slice ao rn cp) rn (dw rs) (af ao) rfl (dD ao rn cp) (HZ.out.2.2.2.1.eG ((Fr.refl [] _).alloc _)).own (some ⟨wr.heap.size,0,none⟩) 1 1 [.int .i64 18,.int .u32 127,.int .i64 7] (by first|rfl|simp) (ay _) (λh=>by cases h) (Fz _ _ _ _ _) rfl (uV (by rfl) (by rfl) (by rfl)) (by omega) (by unfold maxLen;omega) ?_;intro dv gg w2 bN;have HA:=ah ((HZ.out.2.2.2.1.eG ((Fr.refl [] _).alloc _)).app bN);clear bN);go_roundg q;case measure=>exact vg
          case rel=>obtain⟨di,og,jS,lF,fG⟩:=HZ.out;obtain⟨hm,hq⟩:=HM.out;refine⟨d+138,dv,rn+1,gg,rs++[(18,127,7)],by go_num,rfl,by omega,λh=>by omega,by rw[aA,jS];rfl,by rw[Gb];exact HA.out,?_⟩;have h1:=bT.add fG (r:=(18,127,7)) (.inr (.inr (.inr ⟨rfl,by show 127<128;omega,rfl⟩)));have h2:=zfa (ls.take i) d 138 (by omega);rw[h2]at h1;exact h1
         ·obtain⟨m,hm⟩:=ai (gk-11);obtain⟨q,hq⟩:=ai (gk-gk);have em:((gk:Nat):Int)-11=(m:Int):=by omega
          have eq:(gk:Int)-((gk:Nat):Int)=(q:Int):=by omega
          have oM:m<=1000:=by omega
          have vg:q<gk:=by omega
          have HM:=ak hm hq;clear hm hq;go_wp2_with (refine gM oC rfl _ _ rfl (.slice ao rn cp) rn (dw rs) (af ao) rfl (dD ao rn cp) (HZ.out.2.2.2.1.eG ((Fr.refl [] _).alloc _)).own (some ⟨wr.heap.size,0,none⟩) 1 1 [.int .i64 18,.int .u32 m,.int .i64 7] (by first|rfl|simp) (ay _) (λh=>by cases h) (Fz _ _ _ _ _) rfl (uV (by rfl) (by rfl) (by rfl)) (by omega) (by unfold maxLen;omega) ?_;intro dv gg w2 bN;have HA:=ah ((HZ.out.2.2.2.1.eG ((Fr.refl [] _).alloc _)).app bN);clear bN);go_roundg q;case measure=>exact vg
          case rel=>obtain⟨di,og,jS,lF,fG⟩:=HZ.out;obtain⟨hm,hq⟩:=HM.out;refine⟨d+gk,dv,rn+1,gg,rs++[(18,m,7)],by go_num,rfl,by omega,λh=>by omega,by rw[aA,jS];rfl,by rw[Gb];exact HA.out,?_⟩;have h1:=bT.add fG (r:=(18,m,7)) (.inr (.inr (.inr ⟨rfl,by show m<128;omega,rfl⟩)));have h2:=zfa (ls.take i) d gk (by omega);rw[<-hm]at h2;rw[h2]at h1;exact h1
      ·obtain⟨rem,Jc⟩:=ai gk;rw[<-Jc];have hr3:rem<3:=by omega
       have HRM:=ah Jc;clear Jc h3;go_wp2;go_loopg [3,87] rem (λk s3 s87 wz=>∃(t:Nat) (ao:OA) (rn cp:Nat) (rs:List Rn),s87 = .int .i64 (t:Nat)/\s3 = .slice ao rn cp/\t+k=rem/\rn=rs.length/\Made w wz 344 3 ao rn cp (dw rs)/\bT [] rs (gp (ls.take i) x (d+t)));case atStart=>exact⟨0,ao,rn,cp,rs,rfl,rfl,by omega,HZ.out.2.2.1,HZ.out.2.2.2.1,HZ.out.2.2.2.2⟩
       case round=>
        obtain⟨t,ao,rn,cp,rs,rfl,rfl,cH,jS,hm,fG⟩:=hrel;by_cases ht:t<rem
        ·obtain⟨k2,rfl⟩:∃k2,gk=k2+1:=⟨gk-1,by omega⟩;have Ex:rn<=300000:=by have:=fG.len;rw[V8,dU]at this;have:=H.out.2.1;have:=HZ.out.1;simp only[kg]at *;omega
         have HY:=aG cH jS hm fG;clear cH jS hm fG;go_wp2_with (refine gM oC rfl _ _ rfl (.slice ao rn cp) rn (dw rs) (af ao) rfl (dD ao rn cp) (HY.out.2.2.1.eG ((Fr.refl [] _).alloc _)).own (some ⟨wr.heap.size,0,none⟩) 1 1 [.int .i64 x,.int .u32 0,.int .i64 0] (by first|rfl|simp) (ay _) (λh=>by cases h) (Fz _ _ _ _ _) rfl (uV (by rfl) (by rfl) (by rfl)) (by omega) (by unfold maxLen;omega) ?_;intro dv gg w2 bN;have HA:=ah ((HY.out.2.2.1.eG ((Fr.refl [] _).alloc _)).app bN);clear bN);go_roundg k2;case measure=>omega
         case rel=>obtain⟨cH,jS,hm,fG⟩:=HY.out;refine⟨t+1,dv,rn+1,gg,rs++[(x,0,0)],by go_num,rfl,by omega,by rw[aA,jS];rfl,by rw[Gb];exact HA.out,?_⟩;have h1:=bT.add fG (r:=(x,0,0)) (.inl ⟨iZ,rfl,rfl⟩);rw[zan (ls.take i) x (d+t) iZ]at h1;exact h1
        ·obtain rfl:t=rem:=by omega
         have HY:=aw jS hm fG;clear cH jS hm fG;go_wp2;go_roundg (N-y);case measure=>have:=HD.o4;have:=HD.l5;omega
         case rel=>obtain⟨jS,hm,fG⟩:=HY.out;refine⟨y,ao,rn,cp,rs,rfl,rfl,rfl,IY,jS,hm,?_⟩;rw[HD.o0,show n=d+t from by have:=HZ.out.1;have:=HRM.out;omega];exact fG
  ·obtain rfl:i=N:=by omega
   have HY:=aw jS hm fG;clear hk jS hm fG;go_wp2;go_ret;obtain⟨jS,hm,fG⟩:=HY.out;rw[mL (by rw[<-H.out.2.1];exact ay _)]at fG;exact⟨ao,rn,cp,rs,rfl,jS,hm,fG⟩
end defl

end Go.Proofs.YtkmpfgpfbmeihaaGreatDoor