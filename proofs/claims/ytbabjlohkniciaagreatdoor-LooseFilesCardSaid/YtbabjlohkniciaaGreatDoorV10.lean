/-
  Texts of this proof, one behind the other: TokBits, CutRuns.
-/
import Derived.Test.YtbabjlohkniciaaGreatDoorV9
set_option maxHeartbeats 16000000
set_option maxRecDepth 100000
set_option linter.unusedVariables false
set_option linter.unusedSimpArgs false
namespace Go.Proofs.YtbabjlohkniciaaGreatDoor.defl
open Go Go.RowKit lib bm bl mat huf wb
def sbits (ls:List Nat) (s:Nat):List Bool:=msb (lenAt ls s) (codeAt ls s)
def tbits (ll dl:List Nat):Tok→List Bool
 | .lit c=>sbits ll c.toNat
 | .mat n d=>sbits ll (lcode n).1++lsb (lcode n).2.2 (lcode n).2.1++sbits dl (dcode d).1++lsb (dcode d).2.2 (dcode d).2.1
def tsbits (ll dl:List Nat) (t:List Tok):List Bool:=t.flatMap (tbits ll dl)
theorem qg2 (ll dl:List Nat) (t:List Tok) (x:Tok):tsbits ll dl (t++[x])=tsbits ll dl t++tbits ll dl x:=by simp[tsbits]
theorem qdo (ls:List Nat) (hle:∀l∈ls,l≤15) (s:Nat):(sbits ls s).length≤15:=by
 unfold sbits;rw[qd6];unfold lenAt;cases h:ls[s]? with
 | none=>simp
 | some x=>simpa[h] using hle x (qa6 h)
theorem qj9 (ll dl:List Nat) (h1:∀l∈ll,l≤15) (h2:∀l∈dl,l≤15) (x:Tok) (hx:∀n d,x = .mat n d→3≤n∧n≤258∧1≤d∧d≤32768):(tbits ll dl x).length≤48:=by
 cases x with
 | lit c=>have:=qdo ll h1 c.toNat;simp only[tbits];omega
 | mat n d=>obtain⟨a,b,c,e⟩:=hx n d rfl;have k1:=qdo ll h1 (lcode n).1;have k2:=qdo dl h2 (dcode d).1;have k3:=(qia a b).2.2.1;have k4:=(qig c e).2.1;simp only[tbits,qab,lsb_length];omega
def U32 (w:World) (g:Nat) (xs:List Nat):Prop:=Cs w (some ⟨g,0,none⟩) (xs.map λx=>.int .u32 (x:Nat))
theorem qi5 {ls:List Nat} {s:Nat} (h:s<ls.length):(codesOf ls)[s]?=some (codeAt ls s):=by simp[codesOf,h]
theorem qx5 (ls:List Nat) (s:Nat) (hle:∀l∈ls,l≤15) (hw:weight ls≤32768):codeAt ls s<32768:=by
 unfold codeAt;split
 ·decide
 ·rename_i h;have h1:=qrf ls s hle hw (by omega);have h2:lenAt ls s≤15:=hle _ (qdx (qd0 (by omega)));exact qal h1 (qax (by decide) h2)
structure Env (p q4 q6 q3 q8 g1 g2:Nat) (a1 a2:Option Addr) (c1 c2 n1 n2:Nat) (ll dl:List Nat) (w:World):Prop where
 c4:w.cell? ⟨q4,0,none⟩=some (.pointer (some ⟨p,0,none⟩))
 c6:w.cell? ⟨q6,0,none⟩=some (.slice (some ⟨g1,0,none⟩) n1 n1)
 c32:w.cell? ⟨q3,2,none⟩=some (.slice a1 n1 c1)
 c33:w.cell? ⟨q3,3,none⟩=some (.slice a2 n2 c2)
 c8:w.cell? ⟨q8,0,none⟩=some (.slice (some ⟨g2,0,none⟩) n2 n2)
 u1:U32 w g1 (codesOf ll)
 u2:U32 w g2 (codesOf dl)
 r1:Ri w a1 c1 ll
 r2:Ri w a2 c2 dl
 l1:n1=ll.length
 l2:n2=dl.length
def envB (q4 q6 q3 q8 g1 g2:Nat) (a1 a2:Option Addr):List Nat:=[q4,q6,q3,q8,g1,g2]++blk a1++blk a2
theorem qhi {S:List Nat} {w w':World} {a:Option Addr} {cap:Nat} {xs:List Nat} (h:Ri w a cap xs) (f:Fr S w w') (hn:∀x∈blk a,x∉S):Ri w' a cap xs:=⟨h.cs.fr f hn,h.le,h.max,h.nil⟩
theorem Env.fr {p q4 q6 q3 q8 g1 g2:Nat} {a1 a2:Option Addr} {c1 c2 n1 n2:Nat} {ll dl:List Nat} {w w':World} {S:List Nat} (h:Env p q4 q6 q3 q8 g1 g2 a1 a2 c1 c2 n1 n2 ll dl w) (f:Fr S w w')
  (hn:∀x∈envB q4 q6 q3 q8 g1 g2 a1 a2,x∉S):Env p q4 q6 q3 q8 g1 g2 a1 a2 c1 c2 n1 n2 ll dl w':=by
 have k:∀x,x∈[q4,q6,q3,q8,g1,g2]→x∉S:=λx hx=>hn x (by simp only[envB,qbd];exact .inl (.inl hx))
 exact⟨f.cell h.c4 (k q4 (by simp)),f.cell h.c6 (k q6 (by simp)),f.cell h.c32 (k q3 (by simp)),f.cell h.c33 (k q3 (by simp)),f.cell h.c8 (k q8 (by simp)),
  Cs.fr h.u1 f (by simpa[blk] using k g1 (by simp)),Cs.fr h.u2 f (by simpa[blk] using k g2 (by simp)),
  qhi h.r1 f (λx hx=>hn x (by simp only[envB,qbd];exact .inl (.inr hx))),qhi h.r2 f (λx hx=>hn x (by simp only[envB,qbd];exact .inr hx)),h.l1,h.l2⟩
theorem Env.sym1 {p q4 q6 q3 q8 g1 g2:Nat} {a1 a2:Option Addr} {c1 c2 n1 n2:Nat} {ll dl:List Nat} {w:World} (h:Env p q4 q6 q3 q8 g1 g2 a1 a2 c1 c2 n1 n2 ll dl w) {s:Nat} (hs:s<n1) :
  ∃g o,a1=some ⟨g,o,none⟩∧w.cell? ⟨g,o+s,none⟩=some (.int .i64 (lenAt ll s:Nat))∧w.cell? ⟨g1,s,none⟩=some (.int .u32 (codeAt ll s:Nat)):=by
 have hl:s<ll.length:=by rw[<-h.l1];exact hs
 obtain⟨g,o,e,hc⟩:=h.r1.at hl;refine⟨g,o,e,by rw[hc,lenAt,qaf hl];rfl,?_⟩;obtain⟨g',o',e',hc'⟩:=h.u1.at (by simp[codesOf];omega);simp only[qas,qcg,and_true]at e';obtain⟨rfl,rfl⟩:=e';have:=hc' s (.int .u32 (codeAt ll s:Nat)) (by rw[qbx,qi5 hl];rfl);simpa using this
theorem Env.sym2 {p q4 q6 q3 q8 g1 g2:Nat} {a1 a2:Option Addr} {c1 c2 n1 n2:Nat} {ll dl:List Nat} {w:World} (h:Env p q4 q6 q3 q8 g1 g2 a1 a2 c1 c2 n1 n2 ll dl w) {s:Nat} (hs:s<n2) :
  ∃g o,a2=some ⟨g,o,none⟩∧w.cell? ⟨g,o+s,none⟩=some (.int .i64 (lenAt dl s:Nat))∧w.cell? ⟨g2,s,none⟩=some (.int .u32 (codeAt dl s:Nat)):=by
 have hl:s<dl.length:=by rw[<-h.l2];exact hs
 obtain⟨g,o,e,hc⟩:=h.r2.at hl;refine⟨g,o,e,by rw[hc,lenAt,qaf hl];rfl,?_⟩;obtain⟨g',o',e',hc'⟩:=h.u2.at (by simp[codesOf];omega);simp only[qas,qcg,and_true]at e';obtain⟨rfl,rfl⟩:=e';have:=hc' s (.int .u32 (codeAt dl s:Nat)) (by rw[qbx,qi5 hl];rfl);simpa using this
theorem qpr (p:Nat) (F:List Nat) (l:List Bool) (ls:List Nat) (s:Nat) (w:World) (h:Wb w p F l) (hle:∀l∈ls,l≤15) (hw:weight ls≤32768) (hL:l.length≤562949953421200) :
  Calls Tryz.prog 237 #[.pointer (some ⟨p,0,none⟩),.int .u32 (codeAt ls s:Nat),.int .i64 (lenAt ls s:Nat)] w (WbPost p F w (l++sbits ls s)):=by
 have h1:=zdx p F l (codeAt ls s) (lenAt ls s:Nat) w h (by have:=qx5 ls s hle hw;omega) hL;have h2:=qdo ls hle s;unfold sbits at h2 ⊢;rw[qd6]at h2;rw[qc8,qcs (by omega)]at h1;exact h1
theorem qyv (p q4 q6 q3 q8 g1 g2:Nat) (a1 a2:Option Addr) (c1 c2 n1 n2:Nat) (ll dl:List Nat) (F:List Nat) (l:List Bool) (c:UInt8) (w:World) (h:Env p q4 q6 q3 q8 g1 g2 a1 a2 c1 c2 n1 n2 ll dl w) (hW:Wb w p F l)
  (hle:∀l∈ll,l≤15) (hw:weight ll≤32768) (hn:257≤n1) (hL:l.length≤562949953421200) :
  Calls Tryz.prog 236 #[.int .u8 c.toNat,.pointer none,.pointer (some ⟨q4,0,none⟩),.pointer (some ⟨q6,0,none⟩),.pointer (some ⟨q3,0,none⟩),.pointer (some ⟨q8,0,none⟩)] w (WbPost p F w (l++tbits ll dl (.lit c))):=by
 obtain⟨s,hs⟩:=zex c.toNat;have hs2:s<256:=by rw[hs];exact qbo _
 rw[<-hs];have hn1:=h.r1.le;rw[<-h.l1]at hn1;obtain⟨g,o,rfl,d1,d2⟩:=h.sym1 (show s<n1 by omega);have d3:=h.c4;have d4:=h.c6;have d5:=h.c32;have hcall:=qpr p F l ll s w.drew (qin hW (Fr.drew1 [] w) (by simp)) hle hw hL;obtain⟨x,hx⟩:=zex (codeAt ll s);obtain⟨y,hy⟩:=zex (lenAt ll s);rw[<-hx]at d2 hcall;rw[<-hy]at d1 hcall;have hg:decide ((n1:Int)≤(s:Int))=false:=by simp;omega
 have HC:=zhd2 hcall hs;clear hcall h hW hle hw hL hx hy hs;simp only[tbits];go_enter Tryz.func236,Tryz.ntmps236;go_upto_region 1 with fail;refine qcl 10 (by kernel_rfl) (by kernel_rfl) ?_;simp only[qai,qao,qah,qaj];repeat (go_big_quiet_step (fail))
 refine wpQuiet_nil ?_;go_wp2_with (go_at_call 237;refine HC.o0.mono ?_;rintro e w2 ⟨rfl,hfr,hb⟩);refine bodyPost_ret (results_none rfl _ _ _) rfl ?_;rw[HC.l1]at hb;exact⟨rfl,(Fr.drew1 F w).trans hfr,hb⟩
structure Pg (p:Nat) (F:List Nat) (w:World) (b:List Bool) (F':List Nat) (w':World):Prop where
 fr:Fr F w w'
 wb:Wb w' p F' b
 new:∀y∈F',y∈F∨w.heap.size≤y
theorem Pg.start {p:Nat} {F:List Nat} {w:World} {b:List Bool} (h:Wb w p F b):Pg p F w b F w:=⟨.refl _ _,h,λ_ hy=>.inl hy⟩
theorem Pg.fr0 {p:Nat} {F F':List Nat} {w w1 w2:World} {b:List Bool} (h:Pg p F w b F' w1) (f:Fr [] w1 w2):Pg p F w b F' w2:=⟨h.fr.trans (f.mono (by simp)),qin h.wb f (by simp),h.new⟩
theorem Pg.step {p:Nat} {F F1:List Nat} {w w1 w2:World} {b b2:List Bool} (h:Pg p F w b F1 w1) (f:Fr F1 w1 w2) (g:∃F',Wb w2 p F' b2∧∀y∈F',y∈F1∨w1.heap.size≤y):∃F2,Pg p F w b2 F2 w2:=by
 obtain⟨F2,hb,hn⟩:=g;refine⟨F2,h.fr.step f λy hy=>h.new y hy,hb,λy hy=>?_⟩;rcases hn y hy with k|k
 ·exact h.new y k
 ·exact .inr (qan h.fr.size k)
theorem qqj (p:Nat) (F:List Nat) (l:List Bool) (x n:Nat) (w:World) (h:Wb w p F l) (hx:x<4294967296) (hn:n≤32) (hL:l.length≤562949953421312) :
  Calls Tryz.prog 238 #[.pointer (some ⟨p,0,none⟩),.int .u32 x,.int .i64 n] w (WbPost p F w (l++lsb n x)):=by
 have h1:=zb9 p F l x (n:Nat) w h hx hL;rwa [qc8,qcs hn]at h1
theorem zav {w:World} {a:Addr} {v:Value} (h:w.cell? a=some v):a.block<w.heap.size:=by
 rcases qbq a.block w.heap.size with k|k
 ·exact k
 ·unfold World.cell? at h;rw[Array.getElem?_eq_none k]at h;simp at h
theorem qyu (p q4 q6 q3 q8 g1 g2 g o:Nat) (a1 a2:Option Addr) (c1 c2 n1 n2:Nat) (ll dl:List Nat) (F:List Nat) (l:List Bool) (n d:Nat) (w:World) (h:Env p q4 q6 q3 q8 g1 g2 a1 a2 c1 c2 n1 n2 ll dl w) (hW:Wb w p F l)
  (hle:∀l∈ll,l≤15) (hw:weight ll≤32768) (hle2:∀l∈dl,l≤15) (hw2:weight dl≤32768) (hn:286≤n1) (hn2:30≤n2) (hL:l.length≤562949953421000)
  (hE:∀x∈envB q4 q6 q3 q8 g1 g2 a1 a2,x∉F∧x<w.heap.size) (h3:3≤n) (h258:n≤258) (h1:1≤d) (hd:d≤32768) (hg:g∉F)
  (e1:w.cell? ⟨g,o+1,none⟩=some (.int .i64 n)) (e2:w.cell? ⟨g,o+2,none⟩=some (.int .i64 d)) :
  Calls Tryz.prog 236 #[.int .u8 0,.pointer (some ⟨g,o,none⟩),.pointer (some ⟨q4,0,none⟩),.pointer (some ⟨q6,0,none⟩),.pointer (some ⟨q3,0,none⟩),.pointer (some ⟨q8,0,none⟩)] w (WbPost p F w (l++tbits ll dl (.mat n d))):=by
 have hlen:=qg5 n w h3 h258;have hlt:=qia h3 h258;have hdt:=qig h1 hd;have hgl:=zav e2;simp only at hgl;unfold Triple at hlen;simp only[tbits];obtain⟨s,hs⟩:=zex ((lcode n).1);obtain⟨m,hm⟩:=zex ((lcode n).2.1);obtain⟨v,hv⟩:=zex ((lcode n).2.2);obtain⟨s2,hs2⟩:=zex ((dcode d).1);obtain⟨m2,hm2⟩:=zex ((dcode d).2.1);obtain⟨v2,hv2⟩:=zex ((dcode d).2.2);rw[<-hs,<-hm,<-hv]at hlt hlen ⊢;rw[<-hs2,<-hm2,<-hv2]at hdt ⊢;have hmb:m<4294967296:=qal hlt.2.2.2 (qan (qax (by decide) hlt.2.2.1) (by decide));have hmb2:m2<4294967296:=qal hdt.2.2 (qan (qax (by decide) hdt.2.1) (by decide));have hn1:=h.r1.le;rw[<-h.l1]at hn1;have hn3:=h.r2.le;rw[<-h.l2]at hn3;have kS:=qdo ll hle s;have kS2:=qdo dl hle2 s2;have H:=zhd7 h hW hE hlen hgl hg e2;have HB:=zhd8 hlt hdt hmb hmb2 hle hw hle2 hw2;have HD:=zhd5 hs2 hm2 hv2 h1 hd;have HL:=zhd3 hL kS kS2;have hsl:s<n1:=by omega
 have hsl2:s2<n2:=by omega
 clear h hW hE hlen hgl hg e2 hlt hdt hmb hmb2 hle hw hle2 hw2 hs hm hv hs2 hm2 hv2 h1 hd h3 h258 hL kS kS2;go_enter Tryz.func236,Tryz.ntmps236;go_upto_region 3 with (go_at_call 131;refine H.o3.mono ?_;rintro e w1 ⟨rfl,f1⟩;have H1:=zhd f1;clear f1);clear e1;have ev1:=H.o0.fr H1.out (by simp);obtain⟨ga,oa,ea,d1,d2⟩:=ev1.sym1 hsl;subst ea;have d3:=ev1.c4;have d4:=ev1.c6;have d5:=ev1.c32;have hcall:=qpr p F l ll s w1.drew (qin H.o1 (H1.out.trans (Fr.drew1 [] w1)) (by simp)) HB.o4 HB.o5 (by have:=HL.o0;omega);obtain⟨x,hx⟩:=zex (codeAt ll s);obtain⟨y,hy⟩:=zex (lenAt ll s);rw[<-hx]at d2 hcall;rw[<-hy]at d1 hcall;have hg:decide ((n1:Int)≤(s:Int))=false:=by simp;omega
 have HC:=zhd hcall;clear hcall hx hy ev1;refine qcl 10 (by kernel_rfl) (by kernel_rfl) ?_;simp only[qai,qao,qah,qaj];repeat (go_big_quiet_step (fail))
 refine wpQuiet_nil ?_;clear d1 d2 d3 d4 d5 hg;go_upto_region 4 with (go_at_call 237;refine HC.out.mono ?_;rintro e w2 ⟨rfl,f2,g2'⟩;have H2:=zhd (Pg.step (Pg.fr0 (Pg.start H.o1) (H1.out.trans (Fr.drew1 [] w1))) f2 g2');clear f2 g2');obtain⟨F2,hp2⟩:=H2.out;have ev2:=H.o0.fr hp2.fr λx hx=>(H.o2 x hx).1
 have d3:=ev2.c4;have hput:=qqj p F2 _ m v w2 hp2.wb HB.o2 (by have:=HB.o0.2.2.1;omega) (by rw[qab];have:=HL.out;omega);have HC2:=zhd hput;clear ev2 hput;go_upto_region 5 with (go_at_call 238;refine HC2.out.mono ?_;rintro e w3 ⟨rfl,f3,g3⟩;have H3:=zhd (Pg.step hp2 f3 g3);clear f3 g3);clear d3;obtain⟨F3,hp3⟩:=H3.out;have e2:=hp3.fr.cell H.l6 H.o5;have hdi:=qfh d w3 HD.o3 HD.l4;unfold Triple at hdi;rw[<-HD.o0,<-HD.o1,<-HD.o2]at hdi;have HDI:=zhd hdi;have HP3:=zhd hp3;clear hdi hp3 hp2;go_upto_region 6 with (go_at_call 132;refine HDI.out.mono ?_;rintro e w4 ⟨rfl,f4⟩;have H4:=zhd f4;clear f4);clear e2;have hp4:=HP3.out.fr0 H4.out;have ev4:=H.o0.fr hp4.fr λx hx=>(H.o2 x hx).1
 obtain⟨gb,ob,eb,d1,d2⟩:=ev4.sym2 hsl2;subst eb;have d3:=ev4.c4;have d4:=ev4.c8;have d5:=ev4.c33;have hcall:=qpr p F3 _ dl s2 w4.drew (hp4.fr0 (Fr.drew1 [] w4)).wb HB.o6 HB.l7 (by rw[qab,qab,lsb_length];have:=HL.out;have:=HB.o0.2.2.1;omega);obtain⟨x2,hx2⟩:∃x,x=codeAt dl s2:=⟨_,rfl⟩;obtain⟨y2,hy2⟩:∃y,y=lenAt dl s2:=⟨_,rfl⟩;rw[<-hx2]at d2 hcall;rw[<-hy2]at d1 hcall;have hg:decide ((n2:Int)≤(s2:Int))=false:=by simp;omega
 have HC4:=zhd hcall;have HP4:=zhd hp4;clear hcall hx2 hy2 ev4 hp4;refine qcl 10 (by kernel_rfl) (by kernel_rfl) ?_;simp only[qai,qao,qah,qaj];repeat (go_big_quiet_step (fail))
 refine wpQuiet_nil ?_;clear d1 d2 d3 d4 d5 hg;go_upto_region 7 with (go_at_call 237;refine HC4.out.mono ?_;rintro e w5 ⟨rfl,f5,g5⟩;have H5:=zhd (Pg.step (HP4.out.fr0 (Fr.drew1 [] w4)) f5 g5);clear f5 g5);obtain⟨F5,hp5⟩:=H5.out;have ev5:=H.o0.fr hp5.fr λx hx=>(H.o2 x hx).1
 have d3:=ev5.c4;have hput:=qqj p F5 _ m2 v2 w5 hp5.wb HB.o3 (by have:=HB.o1.2.1;omega) (by rw[qab,qab,qab,lsb_length];have:=HL.out;have:=HB.o0.2.2.1;omega);have HC5:=zhd hput;have HP5:=zhd hp5;clear ev5 hput hp5;go_wp2_with (go_at_call 238;refine HC5.out.mono ?_;rintro e w6 ⟨rfl,f6,g6⟩;have H6:=zhd (Pg.step HP5.out f6 g6);clear f6 g6);(try simp only[Exit.inBlock,Exit.then]);refine bodyPost_end (results_none rfl _ _ _) rfl ?_;obtain⟨F6,hp6⟩:=H6.out;refine⟨rfl,hp6.fr,F6,?_,hp6.new⟩;have:=hp6.wb;simpa only[qat] using this
def cutN (ls:List Nat) (least:Nat):Nat→Nat
 | 0=>0
 | n+1=>if least<n+1∧lenAt ls n=0 then cutN ls least n else n+1
theorem qht (ls:List Nat) (least:Nat):∀n,cutN ls least n≤n
 | 0=>qag _
 | n+1=>by
  unfold cutN;split
  ·exact Nat.le_succ_of_le (qht ls least n)
  ·exact qag _
theorem qlk (ls:List Nat) (least:Nat):∀n,least≤n→least≤cutN ls least n
 | 0,h=>by
  have:least=0:=by omega
  rw[this];exact qba _
 | n+1,h=>by
  unfold cutN;split
  ·rename_i hc;exact qlk ls least n (by omega)
  ·exact h
theorem qlj (ls:List Nat) (least:Nat):∀n i,cutN ls least n≤i→i<n→lenAt ls i=0
 | 0,i,_,h=>by omega
 | n+1,i,h1,h2=>by
  unfold cutN at h1;split at h1
  ·rename_i hc;rcases qbq i n with k|k
   ·exact qlj ls least n i h1 k
   ·rw[show i=n from by omega];exact hc.2
  ·omega
theorem qxw (a:Option Addr) (cap:Nat) (ls:List Nat) (least:Nat) (w:World) (h:Ri w a cap ls) (hlen:ls.length≤1000000) (hle:least≤1000000) :
  Calls Tryz.prog 239 #[.slice a ls.length cap,.int .i64 least] w λe w'=>e = .returned (.slice a (cutN ls least ls.length) cap)∧w'=w:=by
 obtain⟨N,hN⟩:=zex ls.length;obtain⟨R,hR⟩:=zex (cutN ls least ls.length);have hNc:=h.le;rw[<-hN]at hlen hNc ⊢;rw[<-hN]at hR;have hRN:R≤N:=by rw[hR];exact qht _ _ _
 have hmx:cap≤9223372036854775807:=h.max;rw[<-hR];have hnil:=h.nil;have H:=zhd4 h hN hR hnil;clear h hN hR hnil;go_enter Tryz.func239,Tryz.ntmps239;go_wp2;go_loopg [5] N (λk s5 wr=>s5 = .int .i64 (k:Nat)∧k≤N∧R≤k∧cutN ls least k=R∧w=wr);case atStart=>exact⟨rfl,qag _,hRN,H.out.2.2.1.symm,rfl⟩
 case round=>
  obtain⟨rfl,hk,hRk,hcn,rfl⟩:=hrel;by_cases hl:least<gk
  ·obtain⟨k,rfl⟩:∃k,gk=k+1:=⟨gk-1,by omega⟩;have hkl:k<ls.length:=by rw[<-H.out.2.1];omega
   obtain⟨g,o,rfl,hc⟩:=H.out.1.at hkl;have hla:lenAt ls k=ls[k]:=by unfold lenAt;rw[qaf hkl];rfl
   rw[<-hla]at hc;obtain⟨v,hv⟩:=zex (lenAt ls k);rw[<-hv]at hc;have e1:((k+1:Nat):Int)-1=(k:Int):=by omega
   have g1:decide ((N:Int)≤(k:Int))=false:=by simp;omega
   unfold cutN at hcn;rw[<-hv]at hcn;obtain⟨k1,hk1⟩:=zex (k+1);rw[<-hk1]at hl hk hRk e1 ⊢;have HK:=zhd hk1;clear hla hv hk1;by_cases hv0:v=0
   ·rw[if_pos ⟨by have:=HK.out;omega,hv0⟩]at hcn;have q:((v:Int)==0)=true:=by simp[hv0]
    have HC:=zhd hcn;clear hcn;go_wp2;go_roundg k;case measure=>have:=HK.out;omega
    case rel=>exact⟨by go_num,by have:=HK.out;omega,by have h:=qht ls least k;have:=HC.out;omega,HC.out,rfl⟩
   ·rw[if_neg (λhh=>hv0 hh.2)]at hcn;have q:((v:Int)==0)=false:=by simp only[beq_eq_false_iff_ne];omega
    obtain rfl:k1=R:=by have:=HK.out;omega
    clear hcn;go_wp2;go_ret;exact⟨rfl,rfl⟩
  ·have e:cutN ls least gk=gk:=by
    cases gk with
    | zero=>rfl
    | succ n=>unfold cutN;rw[if_neg (by omega)]
   obtain rfl:gk=R:=by omega
   have q:decide ((least:Int)<(gk:Int))=false:=by simp;omega
   clear e hcn;cases a with
   | none=>
    have h0:=H.out.2.2.2 rfl;obtain rfl:cap=0:=h0;obtain rfl:gk=0:=by omega
    go_wp2;go_ret;exact⟨rfl,rfl⟩
   | some ad=>obtain⟨g,o,s⟩:=ad;go_wp2;go_ret;exact⟨rfl,rfl⟩
abbrev Rn:=Nat×Nat×Nat
def rcells (l:List Rn):List Value:=l.flatMap λx=>[.int .i64 (x.1:Nat),.int .u32 (x.2.1:Nat),.int .i64 (x.2.2:Nat)]
theorem qc9 (a b:List Rn):rcells (a++b)=rcells a++rcells b:=by simp[rcells]
theorem qku:∀(l:List Rn) (i:Nat) (x:Rn),l[i]?=some x→(rcells l)[i*3]?=some (.int .i64 (x.1:Nat))∧(rcells l)[i*3+1]?=some (.int .u32 (x.2.1:Nat))∧(rcells l)[i*3+2]?=some (.int .i64 (x.2.2:Nat))
 | [],i,x,h=>by simp at h
 | y::l,0,x,h=>by
  simp only[qaa,qas]at h;subst h;exact⟨rfl,rfl,rfl⟩
 | y::l,i+1,x,h=>by have:=qku l i x (by simpa using h);rw[show (i+1)*3=i*3+3 from by omega];exact this
def exp1 (out:List Nat) (r:Rn):List Nat:=
 if r.1<16 then out++[r.1] else if r.1=16 then out++List.replicate (3+r.2.1) (out.getLast?.getD 0) else if r.1=17 then out++List.replicate (3+r.2.1) 0 else out++List.replicate (11+r.2.1) 0
def okR (out:List Nat) (r:Rn):Prop:=
 (r.1≤15∧r.2.1=0∧r.2.2=0)∨(r.1=16∧r.2.1<4∧r.2.2=2∧out≠[])∨(r.1=17∧r.2.1<8∧r.2.2=3)∨(r.1=18∧r.2.1<128∧r.2.2=7)
def RunsOk:List Nat→List Rn→List Nat→Prop
 | out,[],fin=>out=fin
 | out,r::rs,fin=>okR out r∧RunsOk (exp1 out r) rs fin
theorem RunsOk.add:∀{rs:List Rn} {out mid:List Nat} {r:Rn},RunsOk out rs mid→okR mid r→RunsOk out (rs++[r]) (exp1 mid r)
 | [],out,mid,r,h,k=>by obtain rfl:out=mid:=h;exact⟨k,rfl⟩
 | x::rs,out,mid,r,h,k=>⟨h.1,RunsOk.add h.2 k⟩
theorem zam (out:List Nat) (r:Rn):out.length+1≤(exp1 out r).length:=by
 unfold exp1;split
 ·simp
 ·split
  ·simp;omega
  ·split<;>simp<;>omega
theorem RunsOk.len:∀{rs:List Rn} {out fin:List Nat},RunsOk out rs fin→out.length+rs.length≤fin.length
 | [],out,fin,h=>by obtain rfl:out=fin:=h;simp
 | x::rs,out,fin,h=>by have h1:=RunsOk.len h.2;have h2:=zam out x;simp only[qam];omega
def outD (base:List Nat) (x d:Nat):List Nat:=base++List.replicate d x
theorem qno (base:List Nat) (x d:Nat):(outD base x d).length=base.length+d:=by simp[outD]
theorem qv7 (base:List Nat) (x d:Nat) (h:1≤d):(outD base x d).getLast?.getD 0=x:=by obtain⟨e,rfl⟩:∃e,d=e+1:=⟨d-1,by omega⟩;unfold outD;rw[qdw,<-qat,List.getLast?_append];simp
theorem qv6 (base:List Nat) (x d:Nat) (h:1≤d):outD base x d≠[]:=by intro e;have:=congrArg List.length e;rw[qno]at this;simp at this;omega
theorem qh6 (base:List Nat) (x d k:Nat):outD base x d++List.replicate k x=outD base x (d+k):=by unfold outD;rw[qat,List.replicate_append_replicate]
theorem qxn (base:List Nat) (x d:Nat) (hx:x≤15):exp1 (outD base x d) (x,0,0)=outD base x (d+1):=by unfold exp1;rw[if_pos (by simp only;omega)];exact qh6 base x d 1
theorem zbl (base:List Nat) (x d k:Nat) (h:1≤d) (hk:3≤k):exp1 (outD base x d) (16,k-3,2)=outD base x (d+k):=by unfold exp1;rw[if_neg (by simp),if_pos rfl,qv7 base x d h];simp only;rw[show 3+(k-3)=k from by omega];exact qh6 base x d k
theorem zbk (base:List Nat) (d k:Nat) (hk:3≤k):exp1 (outD base 0 d) (17,k-3,3)=outD base 0 (d+k):=by unfold exp1;rw[if_neg (by simp),if_neg (by simp),if_pos rfl];simp only;rw[show 3+(k-3)=k from by omega];exact qh6 base 0 d k
theorem zbj (base:List Nat) (d k:Nat) (hk:11≤k):exp1 (outD base 0 d) (18,k-11,7)=outD base 0 (d+k):=by unfold exp1;rw[if_neg (by simp),if_neg (by simp),if_neg (by simp)];simp only;rw[show 11+(k-11)=k from by omega];exact qh6 base 0 d k
theorem qru (ls:List Nat) (i:Nat):∀n,i+n≤ls.length→(∀j,j<n→lenAt ls (i+j)=lenAt ls i)→ls.take (i+n)=outD (ls.take i) (lenAt ls i) n
 | 0,_,_=>by simp[outD]
 | n+1,h1,h2=>by
  have ih:=qru ls i n (by omega) λj hj=>h2 j (by omega)
  have hl:i+n<ls.length:=by omega
  have e:ls[i+n]=lenAt ls i:=by rw[<-h2 n (by omega)];unfold lenAt;rw[qaf hl];rfl
  rw[show i+(n+1)=i+n+1 from rfl,qbc hl,ih,e];exact qh6 (ls.take i) (lenAt ls i) n 1
theorem runTy:SliceTy Tryz.prog 308 311 (.agg #[.int .i64 0,.int .u32 0,.int .i64 0]) 3 24:=SliceTy.of Tryz.underlying308 (by kernel_rfl) rfl (by decide)
theorem qgw (w:World) (x y z:Value) (T:TypeId):Cs (w.alloc (.cells #[x,y,z] T)) (some ⟨w.heap.size,0,none⟩) [x,y,z]:=by refine .inr ⟨_,0,rfl,λj v hv=>?_⟩;rw[cell_of (qa4 w _),qbe];simpa using hv
theorem one3 {x y z:Value} (hx:x.oneCell'=true) (hy:y.oneCell'=true) (hz:z.oneCell'=true):∀u∈[x,y,z],u.oneCell'=true:=by
 intro u hu;simp only[qaw,qby,or_false]at hu;rcases hu with rfl|rfl|rfl
 ·exact hx
 ·exact hy
 ·exact hz
theorem qzc (a:Option Addr) (cap:Nat) (ls:List Nat) (w:World) (h:Ri w a cap ls) (hlen:ls.length≤100000) (h15:∀l∈ls,l≤15) :
  Calls Tryz.prog 240 #[.slice a ls.length cap] w λe w'=>∃ao rn cp rs,e = .returned (.slice ao rn cp)∧rn=rs.length∧Made w w' 311 3 ao rn cp (rcells rs)∧RunsOk [] rs ls:=by
 obtain⟨N,hN⟩:=zex ls.length;rw[<-hN]at hlen ⊢;have H:=zhd3 h hN h15;clear h hN h15;go_enter Tryz.func240,Tryz.ntmps240;go_wp2;go_loopg [3,4,5,6,7,62,72,87] N (λk s3 s4 s5 s6 s7 s62 s72 s87 wr=>∃(i:Nat) (ao:Option Addr) (rn cp:Nat) (rs:List Rn),s4 = .int .i64 (i:Nat)∧s3 = .slice ao rn cp∧k=N-i∧i≤N∧rn=rs.length∧Made w wr 311 3 ao rn cp (rcells rs)∧RunsOk [] rs (ls.take i));case atStart=>exact⟨0,none,0,0,[],rfl,rfl,rfl,qba _,rfl,.none w _ _,rfl⟩
 case round=>
  obtain⟨i,ao,rn,cp,rs,rfl,rfl,hk,hiN,hrn,hm,hro⟩:=hrel;by_cases hi:i<N
  ·have hil:i<ls.length:=by rw[<-H.out.2.1];exact hi
   obtain⟨g,o,rfl,hc⟩:=(H.out.1.fr hm.fr).at hil;have hla:∀j,j<ls.length→ls[j]?=some (lenAt ls j):=λj hj=>by unfold lenAt;rw[qaf hj];rfl
   have hx15:lenAt ls i≤15:=H.out.2.2 _ (qdx hil);have hcell:∀j,j<N→wr.cell? ⟨g,o+j,none⟩=some (.int .i64 (lenAt ls j:Nat)):=λj hj=>by obtain⟨g',o',e,hc'⟩:=(H.out.1.fr hm.fr).at (i:=j) (by rw[<-H.out.2.1];exact hj);simp only[qas,qcg,and_true]at e;obtain⟨rfl,rfl⟩:=e;rw[hc',<-(qa2 ((qaf (by rw[<-H.out.2.1];exact hj)).symm.trans (hla j (by rw[<-H.out.2.1];exact hj))))]
   have HI:=zhd5 hm hro hk hrn hcell;have HX:=zhd hx15;obtain⟨x,hx⟩:=zex (lenAt ls i);have dx:=hcell i hi;rw[<-hx]at dx;have HXE:=zhd hx;clear hm hro hk hrn hcell hla hc hx15 hx hil;obtain⟨wo,hwo⟩:∃wo:World,wo=wr:=⟨_,rfl⟩;have HWO:=zhd hwo;rw[<-hwo]at dx ⊢;clear hwo;go_wp2;go_loopg [5] (N-1) (λk s5 wz=>∃n:Nat,s5 = .int .i64 (n:Nat)∧1≤n∧i+n≤N∧k=N-n∧(∀j,j<n→lenAt ls (i+j)=lenAt ls i)∧Fr [] wo wz);case atStart=>exact⟨1,rfl,qag _,by omega,rfl,λj hj=>by rw[show j=0 from by omega,qb5],.refl _ _⟩
   case round=>
    obtain⟨n,rfl,hn1,hnN,hk2,hall,hfz⟩:=hrel;obtain⟨y,hy⟩:=zex (i+n);have e0:(i:Int)+(n:Int)=(y:Int):=by omega
    have dx2:=hfz.cell dx (by simp);have key:(y<N∧lenAt ls y=x)∨(y<N∧lenAt ls y≠x)∨N≤y:=by omega
    have hstop:(y<N∧lenAt ls y=x)∨((y<N∧lenAt ls y≠x)∨N≤y):=key;clear key;rcases hstop with⟨hyN,hyx⟩|hstop
    ·have dy:=(HI.l4 y hyN);rw[<-HWO.out,hyx]at dy;have dy2:=hfz.cell dy (by simp);have q:((x:Int)==(x:Int))=true:=by simp
     have g1:decide ((N:Int)≤(y:Int))=false:=by simp;omega
     have g2:decide ((N:Int)≤(i:Int))=false:=by simp;omega
     have g3:decide ((y:Int)<(N:Int))=true:=by simp;omega
     have HK:=zhd5 hall hfz hy hk2 hyx;clear hall hfz hy hk2 dy hyx;go_upto_region 5 with fail;go_quiet (fail);go_wp2;go_roundg (N-(n+1));case measure=>have:=HK.out.2.2.2.1;have:=HK.out.2.2.1;omega
     case rel=>
      obtain⟨hall,hfz,hy,hk2,hyx⟩:=HK.out;refine⟨n+1,by go_num,by omega,by omega,rfl,λj hj=>?_,hfz.trans (Fr.drewN [] _ _)⟩;rcases qbq j n with k|k
      ·exact hall j k
      ·rw[show j=n from by omega,<-hy,hyx,HXE.out]
    ·have hstop2:(y<N∧decide (y<N)=true)∨N≤y:=by rcases hstop with k|k;exact .inl ⟨k.1,by simp[k.1]⟩;exact .inr k
     have hyB:y≤100000:=by omega
     have hyN:y≤N:=by omega
     have HK:=zhd5 hall hfz hy hk2 hstop;clear hall hfz hk2 hstop hy;go_upto_region 5 with fail;go_cut [30] from 12 to 31 (λs30 wd=>s30 = .bool false∧Fr [] wr wd)
     case first=>
      rcases HK.out.2.2.2.2 with⟨hyN,hyx⟩|hyN
      ·have dy:=(HI.l4 y hyN);obtain⟨v,hv⟩:=zex (lenAt ls y);rw[<-HWO.out,<-hv]at dy;rw[<-hv]at hyx;have dy2:=HK.out.2.1.cell dy (by simp);have q:((v:Int)==(x:Int))=false:=by simp only[beq_eq_false_iff_ne];omega
       have g1:decide ((N:Int)≤(y:Int))=false:=by simp;omega
       have g2:decide ((N:Int)≤(i:Int))=false:=by simp;omega
       have g3:decide ((y:Int)<(N:Int))=true:=by simp;omega
       clear dy hv hyx hstop2;go_quiet (fail);go_wp2;go_meet;exact⟨rfl,Fr.drewN [] _ _⟩
      ·have g3:decide ((y:Int)<(N:Int))=false:=by simp;omega
       have g4:decide (y<N)=false:=by simp;omega
       have ew:IntKind.i64.wrap (y:Int)=(y:Int):=by rw[qcx];omega
       clear hstop2 hyN;go_quiet (fail);go_wp2;go_meet;exact⟨rfl,Fr.drewN [] _ _⟩
     case rest=>
     obtain⟨rfl,hfd⟩:=hcut;have dx3:=hfd.cell dx2 (by simp);have g2:decide ((N:Int)≤(i:Int))=false:=by simp;omega
     obtain⟨wd,hwd⟩:∃wd:World,wd=wc:=⟨_,rfl⟩;rw[<-hwd]at dx3 hfd ⊢;have fd:=HK.out.2.1.trans hfd;have htk:ls.take y=outD (ls.take i) x n:=by obtain⟨hall,hfz,hy,hk2,_⟩:=HK.out;rw[hy,HXE.out];exact qru ls i n (by rw[<-H.out.2.1];omega) hall
     have hx15:x≤15:=by rw[HXE.out];exact HX.out
     have hm0:=HI.o0;rw[<-HWO.out]at hm0;have HD:=zhd6 htk (hm0.fr2 fd) HI.o1 HI.o3 HI.o2 HK.out.2.2.1;have hrnb:rn≤100000:=by have:=HI.o1.len;rw[qar,<-HI.o3]at this;simp at this;omega
     clear HK HI HX HXE HWO htk hm0 fd hfd hwd dx2 dx hstop2;go_upto_if 41 with fail;clear dx3 g2;go_cut [3,5] from 41 to 49 (λs3 s5 wz=>∃(rem d:Nat) (ao:Option Addr) (rn cp:Nat) (rs:List Rn),s5 = .int .i64 (rem:Nat)∧s3 = .slice ao rn cp∧rem+d=n∧(0<x→1≤d)∧rn=rs.length∧Made w wz 311 3 ao rn cp (rcells rs)∧RunsOk [] rs (outD (ls.take i) x d))
     case first=>
      by_cases hx0:0<x
      ·have q:decide ((0:Int)<(x:Int))=true:=by simp;omega
       obtain⟨n1,hn1'⟩:∃n1,n1=n-1:=⟨_,rfl⟩;have e1:(n:Int)-1=(n1:Int):=by omega
       have HN1:=zhd hn1';clear hn1';go_wp2_with (refine qa5 runTy rfl _ _ rfl (.slice ao rn cp) rn (rcells rs) (blk ao) rfl (qbp ao rn cp) (HD.o1.fr2 ((Fr.refl [] _).alloc _)).own (some ⟨wd.heap.size,0,none⟩) 1 1 [.int .i64 x,.int .u32 0,.int .i64 0] (by first|rfl|simp) (qag _) (λh=>by cases h) (qgw _ _ _ _ _) rfl (one3 (by rfl) (by rfl) (by rfl)) (by omega) (by unfold maxLen;omega) ?_;intro ao2 cp2 w2 hap;have HA:=zhd ((HD.o1.fr2 ((Fr.refl [] _).alloc _)).app hap);clear hap);go_meet;have:=HN1.out;refine⟨n1,1,ao2,rn+1,cp2,rs++[(x,0,0)],rfl,rfl,by omega,λ_=>qag _,by rw[qab,HD.o3];rfl,by rw[qc9];exact HA.out,?_⟩;have h1:=RunsOk.add HD.o2 (r:=(x,0,0)) (.inl ⟨hx15,rfl,rfl⟩);have h2:=qxn (ls.take i) x 0 hx15;rw[show outD (ls.take i) x 0=ls.take i from by simp[outD]]at h2;rwa [h2]at h1
      ·obtain rfl:x=0:=by omega
       go_wp2;go_meet;exact⟨n,0,ao,rn,cp,rs,rfl,rfl,rfl,λh=>absurd h (by omega),HD.o3,HD.o1,by rw[show outD (ls.take i) 0 0=ls.take i from by simp[outD]];exact HD.o2⟩
     case rest=>
     obtain⟨rem,d,ao,rn,cp,rs,rfl,rfl,hrd,hd1,hrn,hm,hro⟩:=hcut;have HR:=zhd5 hrd hd1 hrn hm hro;have hremb:rem≤100000:=by omega
     clear hrd hd1 hrn hm hro hrnb;go_wp2;go_loopg [3,5,7,62,72] rem (λk s3 s5 s7 s62 s72 wz=>∃(d:Nat) (ao:Option Addr) (rn cp:Nat) (rs:List Rn),s5 = .int .i64 (k:Nat)∧s3 = .slice ao rn cp∧k+d=n∧(0<x→1≤d)∧rn=rs.length∧Made w wz 311 3 ao rn cp (rcells rs)∧RunsOk [] rs (outD (ls.take i) x d));case atStart=>exact⟨d,ao,rn,cp,rs,rfl,rfl,HR.out⟩
     case round=>
      obtain⟨d,ao,rn,cp,rs,rfl,rfl,hrd,hd1,hrn,hm,hro⟩:=hrel;have hrnb:rn≤200000:=by have:=hro.len;rw[qno,qar]at this;have:=H.out.2.1;simp only[qbb]at *;omega
      have hgk:gk≤100000:=by omega
      have HZ:=zhd5 hrd hd1 hrn hm hro;clear hrd hd1 hrn hm hro;by_cases h3:3≤gk
      ·by_cases hx0:0<x
       ·by_cases h6:6<gk
        ·obtain⟨m,hm⟩:=zex (6-3);obtain⟨q,hq⟩:=zex (gk-6);have em:((6:Nat):Int)-3=(m:Int):=by omega
         have eq:(gk:Int)-((6:Nat):Int)=(q:Int):=by omega
         have hmb:m≤1000:=by omega
         have hq1:q<gk:=by omega
         have HM:=zhd2 hm hq;clear hm hq;go_wp2_with (refine qa5 runTy rfl _ _ rfl (.slice ao rn cp) rn (rcells rs) (blk ao) rfl (qbp ao rn cp) (HZ.out.2.2.2.1.fr2 ((Fr.refl [] _).alloc _)).own (some ⟨wr.heap.size,0,none⟩) 1 1 [.int .i64 16,.int .u32 3,.int .i64 2] (by first|rfl|simp) (qag _) (λh=>by cases h) (qgw _ _ _ _ _) rfl (one3 (by rfl) (by rfl) (by rfl)) (by omega) (by unfold maxLen;omega) ?_;intro ao2 cp2 w2 hap;have HA:=zhd ((HZ.out.2.2.2.1.fr2 ((Fr.refl [] _).alloc _)).app hap);clear hap);go_roundg q;case measure=>exact hq1
         case rel=>obtain⟨hrd,hd1,hrn,hmm,hro⟩:=HZ.out;obtain⟨hm,hq⟩:=HM.out;refine⟨d+6,ao2,rn+1,cp2,rs++[(16,3,2)],by go_num,rfl,by omega,λh=>by omega,by rw[qab,hrn];rfl,by rw[qc9];exact HA.out,?_⟩;have h1:=RunsOk.add hro (r:=(16,3,2)) (.inr (.inl ⟨rfl,by show 3<4;omega,rfl,qv6 _ _ _ (hd1 (by omega))⟩));have h2:=zbl (ls.take i) x d 6 (hd1 (by omega)) (by omega);rw[h2]at h1;exact h1
        ·obtain⟨m,hm⟩:=zex (gk-3);obtain⟨q,hq⟩:=zex (gk-gk);have em:((gk:Nat):Int)-3=(m:Int):=by omega
         have eq:(gk:Int)-((gk:Nat):Int)=(q:Int):=by omega
         have hmb:m≤1000:=by omega
         have hq1:q<gk:=by omega
         have HM:=zhd2 hm hq;clear hm hq;go_wp2_with (refine qa5 runTy rfl _ _ rfl (.slice ao rn cp) rn (rcells rs) (blk ao) rfl (qbp ao rn cp) (HZ.out.2.2.2.1.fr2 ((Fr.refl [] _).alloc _)).own (some ⟨wr.heap.size,0,none⟩) 1 1 [.int .i64 16,.int .u32 m,.int .i64 2] (by first|rfl|simp) (qag _) (λh=>by cases h) (qgw _ _ _ _ _) rfl (one3 (by rfl) (by rfl) (by rfl)) (by omega) (by unfold maxLen;omega) ?_;intro ao2 cp2 w2 hap;have HA:=zhd ((HZ.out.2.2.2.1.fr2 ((Fr.refl [] _).alloc _)).app hap);clear hap);go_roundg q;case measure=>exact hq1
         case rel=>obtain⟨hrd,hd1,hrn,hmm,hro⟩:=HZ.out;obtain⟨hm,hq⟩:=HM.out;refine⟨d+gk,ao2,rn+1,cp2,rs++[(16,m,2)],by go_num,rfl,by omega,λh=>by omega,by rw[qab,hrn];rfl,by rw[qc9];exact HA.out,?_⟩;have h1:=RunsOk.add hro (r:=(16,m,2)) (.inr (.inl ⟨rfl,by show m<4;omega,rfl,qv6 _ _ _ (hd1 (by omega))⟩));have h2:=zbl (ls.take i) x d gk (hd1 (by omega)) (by omega);rw[<-hm]at h2;rw[h2]at h1;exact h1
       ·obtain rfl:x=0:=by omega
        by_cases h11:gk<11
        ·by_cases h6:6<gk
         ·obtain⟨m,hm⟩:=zex (gk-3);obtain⟨q,hq⟩:=zex (gk-gk);have em:((gk:Nat):Int)-3=(m:Int):=by omega
          have eq:(gk:Int)-((gk:Nat):Int)=(q:Int):=by omega
          have hmb:m≤1000:=by omega
          have hq1:q<gk:=by omega
          have HM:=zhd2 hm hq;clear hm hq;go_wp2_with (refine qa5 runTy rfl _ _ rfl (.slice ao rn cp) rn (rcells rs) (blk ao) rfl (qbp ao rn cp) (HZ.out.2.2.2.1.fr2 ((Fr.refl [] _).alloc _)).own (some ⟨wr.heap.size,0,none⟩) 1 1 [.int .i64 17,.int .u32 m,.int .i64 3] (by first|rfl|simp) (qag _) (λh=>by cases h) (qgw _ _ _ _ _) rfl (one3 (by rfl) (by rfl) (by rfl)) (by omega) (by unfold maxLen;omega) ?_;intro ao2 cp2 w2 hap;have HA:=zhd ((HZ.out.2.2.2.1.fr2 ((Fr.refl [] _).alloc _)).app hap);clear hap);go_roundg q;case measure=>exact hq1
          case rel=>obtain⟨hrd,hd1,hrn,hmm,hro⟩:=HZ.out;obtain⟨hm,hq⟩:=HM.out;refine⟨d+gk,ao2,rn+1,cp2,rs++[(17,m,3)],by go_num,rfl,by omega,λh=>by omega,by rw[qab,hrn];rfl,by rw[qc9];exact HA.out,?_⟩;have h1:=RunsOk.add hro (r:=(17,m,3)) (.inr (.inr (.inl ⟨rfl,by show m<8;omega,rfl⟩)));have h2:=zbk (ls.take i) d gk (by omega);rw[<-hm]at h2;rw[h2]at h1;exact h1
         ·obtain⟨m,hm⟩:=zex (gk-3);obtain⟨q,hq⟩:=zex (gk-gk);have em:((gk:Nat):Int)-3=(m:Int):=by omega
          have eq:(gk:Int)-((gk:Nat):Int)=(q:Int):=by omega
          have hmb:m≤1000:=by omega
          have hq1:q<gk:=by omega
          have HM:=zhd2 hm hq;clear hm hq;go_wp2_with (refine qa5 runTy rfl _ _ rfl (.slice ao rn cp) rn (rcells rs) (blk ao) rfl (qbp ao rn cp) (HZ.out.2.2.2.1.fr2 ((Fr.refl [] _).alloc _)).own (some ⟨wr.heap.size,0,none⟩) 1 1 [.int .i64 17,.int .u32 m,.int .i64 3] (by first|rfl|simp) (qag _) (λh=>by cases h) (qgw _ _ _ _ _) rfl (one3 (by rfl) (by rfl) (by rfl)) (by omega) (by unfold maxLen;omega) ?_;intro ao2 cp2 w2 hap;have HA:=zhd ((HZ.out.2.2.2.1.fr2 ((Fr.refl [] _).alloc _)).app hap);clear hap);go_roundg q;case measure=>exact hq1
          case rel=>obtain⟨hrd,hd1,hrn,hmm,hro⟩:=HZ.out;obtain⟨hm,hq⟩:=HM.out;refine⟨d+gk,ao2,rn+1,cp2,rs++[(17,m,3)],by go_num,rfl,by omega,λh=>by omega,by rw[qab,hrn];rfl,by rw[qc9];exact HA.out,?_⟩;have h1:=RunsOk.add hro (r:=(17,m,3)) (.inr (.inr (.inl ⟨rfl,by show m<8;omega,rfl⟩)));have h2:=zbk (ls.take i) d gk (by omega);rw[<-hm]at h2;rw[h2]at h1;exact h1
        ·have h6:6<gk:=by omega
         by_cases h138:138<gk
         ·obtain⟨m,hm⟩:=zex (138-11);obtain⟨q,hq⟩:=zex (gk-138);have em:((138:Nat):Int)-11=(m:Int):=by omega
          have eq:(gk:Int)-((138:Nat):Int)=(q:Int):=by omega
          have hmb:m≤1000:=by omega
          have hq1:q<gk:=by omega
          have HM:=zhd2 hm hq;clear hm hq;go_wp2_with (refine qa5 runTy rfl _ _ rfl (.slice ao rn cp) rn (rcells rs) (blk ao) rfl (qbp ao rn cp) (HZ.out.2.2.2.1.fr2 ((Fr.refl [] _).alloc _)).own (some ⟨wr.heap.size,0,none⟩) 1 1 [.int .i64 18,.int .u32 127,.int .i64 7] (by first|rfl|simp) (qag _) (λh=>by cases h) (qgw _ _ _ _ _) rfl (one3 (by rfl) (by rfl) (by rfl)) (by omega) (by unfold maxLen;omega) ?_;intro ao2 cp2 w2 hap;have HA:=zhd ((HZ.out.2.2.2.1.fr2 ((Fr.refl [] _).alloc _)).app hap);clear hap);go_roundg q;case measure=>exact hq1
          case rel=>obtain⟨hrd,hd1,hrn,hmm,hro⟩:=HZ.out;obtain⟨hm,hq⟩:=HM.out;refine⟨d+138,ao2,rn+1,cp2,rs++[(18,127,7)],by go_num,rfl,by omega,λh=>by omega,by rw[qab,hrn];rfl,by rw[qc9];exact HA.out,?_⟩;have h1:=RunsOk.add hro (r:=(18,127,7)) (.inr (.inr (.inr ⟨rfl,by show 127<128;omega,rfl⟩)));have h2:=zbj (ls.take i) d 138 (by omega);rw[h2]at h1;exact h1
         ·obtain⟨m,hm⟩:=zex (gk-11);obtain⟨q,hq⟩:=zex (gk-gk);have em:((gk:Nat):Int)-11=(m:Int):=by omega
          have eq:(gk:Int)-((gk:Nat):Int)=(q:Int):=by omega
          have hmb:m≤1000:=by omega
          have hq1:q<gk:=by omega
          have HM:=zhd2 hm hq;clear hm hq;go_wp2_with (refine qa5 runTy rfl _ _ rfl (.slice ao rn cp) rn (rcells rs) (blk ao) rfl (qbp ao rn cp) (HZ.out.2.2.2.1.fr2 ((Fr.refl [] _).alloc _)).own (some ⟨wr.heap.size,0,none⟩) 1 1 [.int .i64 18,.int .u32 m,.int .i64 7] (by first|rfl|simp) (qag _) (λh=>by cases h) (qgw _ _ _ _ _) rfl (one3 (by rfl) (by rfl) (by rfl)) (by omega) (by unfold maxLen;omega) ?_;intro ao2 cp2 w2 hap;have HA:=zhd ((HZ.out.2.2.2.1.fr2 ((Fr.refl [] _).alloc _)).app hap);clear hap);go_roundg q;case measure=>exact hq1
          case rel=>obtain⟨hrd,hd1,hrn,hmm,hro⟩:=HZ.out;obtain⟨hm,hq⟩:=HM.out;refine⟨d+gk,ao2,rn+1,cp2,rs++[(18,m,7)],by go_num,rfl,by omega,λh=>by omega,by rw[qab,hrn];rfl,by rw[qc9];exact HA.out,?_⟩;have h1:=RunsOk.add hro (r:=(18,m,7)) (.inr (.inr (.inr ⟨rfl,by show m<128;omega,rfl⟩)));have h2:=zbj (ls.take i) d gk (by omega);rw[<-hm]at h2;rw[h2]at h1;exact h1
      ·obtain⟨rem,hrem⟩:=zex gk;rw[<-hrem];have hr3:rem<3:=by omega
       have HRM:=zhd hrem;clear hrem h3;go_wp2;go_loopg [3,87] rem (λk s3 s87 wz=>∃(t:Nat) (ao:Option Addr) (rn cp:Nat) (rs:List Rn),s87 = .int .i64 (t:Nat)∧s3 = .slice ao rn cp∧t+k=rem∧rn=rs.length∧Made w wz 311 3 ao rn cp (rcells rs)∧RunsOk [] rs (outD (ls.take i) x (d+t)));case atStart=>exact⟨0,ao,rn,cp,rs,rfl,rfl,by omega,HZ.out.2.2.1,HZ.out.2.2.2.1,HZ.out.2.2.2.2⟩
       case round=>
        obtain⟨t,ao,rn,cp,rs,rfl,rfl,htk,hrn,hm,hro⟩:=hrel;by_cases ht:t<rem
        ·obtain⟨k2,rfl⟩:∃k2,gk=k2+1:=⟨gk-1,by omega⟩;have hrnb:rn≤300000:=by have:=hro.len;rw[qno,qar]at this;have:=H.out.2.1;have:=HZ.out.1;simp only[qbb]at *;omega
         have HY:=zhd4 htk hrn hm hro;clear htk hrn hm hro;go_wp2_with (refine qa5 runTy rfl _ _ rfl (.slice ao rn cp) rn (rcells rs) (blk ao) rfl (qbp ao rn cp) (HY.out.2.2.1.fr2 ((Fr.refl [] _).alloc _)).own (some ⟨wr.heap.size,0,none⟩) 1 1 [.int .i64 x,.int .u32 0,.int .i64 0] (by first|rfl|simp) (qag _) (λh=>by cases h) (qgw _ _ _ _ _) rfl (one3 (by rfl) (by rfl) (by rfl)) (by omega) (by unfold maxLen;omega) ?_;intro ao2 cp2 w2 hap;have HA:=zhd ((HY.out.2.2.1.fr2 ((Fr.refl [] _).alloc _)).app hap);clear hap);go_roundg k2;case measure=>omega
         case rel=>obtain⟨htk,hrn,hm,hro⟩:=HY.out;refine⟨t+1,ao2,rn+1,cp2,rs++[(x,0,0)],by go_num,rfl,by omega,by rw[qab,hrn];rfl,by rw[qc9];exact HA.out,?_⟩;have h1:=RunsOk.add hro (r:=(x,0,0)) (.inl ⟨hx15,rfl,rfl⟩);rw[qxn (ls.take i) x (d+t) hx15]at h1;exact h1
        ·obtain rfl:t=rem:=by omega
         have HY:=zhd3 hrn hm hro;clear htk hrn hm hro;go_wp2;go_roundg (N-y);case measure=>have:=HD.o4;have:=HD.l5;omega
         case rel=>obtain⟨hrn,hm,hro⟩:=HY.out;refine⟨y,ao,rn,cp,rs,rfl,rfl,rfl,hyN,hrn,hm,?_⟩;rw[HD.o0,show n=d+t from by have:=HZ.out.1;have:=HRM.out;omega];exact hro
  ·obtain rfl:i=N:=by omega
   have HY:=zhd3 hrn hm hro;clear hk hrn hm hro;go_wp2;go_ret;obtain⟨hrn,hm,hro⟩:=HY.out;rw[qa9 (by rw[<-H.out.2.1];exact qag _)]at hro;exact⟨ao,rn,cp,rs,rfl,hrn,hm,hro⟩
end Go.Proofs.YtbabjlohkniciaaGreatDoor.defl
