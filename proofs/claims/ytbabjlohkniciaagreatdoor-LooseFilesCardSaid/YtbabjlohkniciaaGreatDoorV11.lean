/-
  Texts of this proof, one behind the other: Tell, Cwrite, Always, Wcoded.
-/
import Derived.Test.YtbabjlohkniciaaGreatDoorV10
set_option maxHeartbeats 16000000
set_option maxRecDepth 100000
set_option linter.unusedVariables false
set_option linter.unusedSimpArgs false
namespace Go.Proofs.YtbabjlohkniciaaGreatDoor.defl
open Go Go.RowKit lib bm bl mat huf wb
def rbits (cl:List Nat) (r:Rn):List Bool:=sbits cl r.1++lsb r.2.2 r.2.1
structure Told (ll dl:List Nat) (nl nd nc:Nat) (cl:List Nat) (rs:List Rn) (b:List Bool):Prop where
 enl:nl=cutN ll 257 ll.length
 ennd:nd=cutN dl 1 dl.length
 runs:RunsOk [] rs (ll.take nl++dl.take nd)
 clen:cl.length=19
 cle:∀l∈cl,l≤7
 full:weight cl=32768
 used:∀r∈rs,0<lenAt cl r.1
 nc4:4≤nc
 nc19:nc≤19
 rest:∀i,nc≤i→i<19→lenAt cl (ord i)=0
 bits:b=lsb 5 (nl-257)++lsb 5 (nd-1)++lsb 4 (nc-4)++((List.range nc).flatMap λi=>lsb 3 (lenAt cl (ord i)))++rs.flatMap (rbits cl)
theorem qg3:∀{rs:List Rn} {out fin:List Nat},RunsOk out rs fin→∀r∈rs,r.1≤18∧r.2.1<128∧r.2.2≤7
 | [],_,_,_,r,hr=>by cases hr
 | x::rs,out,fin,h,r,hr=>by
  rcases qaw.1 hr with e|e
  ·subst e;rcases h.1 with k|k|k|k<;>omega
  ·exact qg3 h.2 r e
def tolist (F:Nat→Nat):List Nat:=(List.range 19).map F
theorem qeu (F:Nat→Nat) {s:Nat} (h:s<19):lenAt (tolist F) s=F s:=by simp[lenAt,tolist,h]
def rcnt (rs:List Rn) (s:Nat):Nat:=(rs.map (·.1)).count s
theorem qvx (rs:List Rn) (s:Nat):rcnt rs s≤rs.length:=by have:=qhf (a:=s) (l:=rs.map (·.1));rwa [qa8]at this
theorem qzh (rs:List Rn) (r:Rn) (s:Nat):rcnt (rs++[r]) s=if s=r.1 then rcnt rs s+1 else rcnt rs s:=by
 unfold rcnt;rw[qbt,qe1];by_cases h:s=r.1
 ·subst h;simp
 ·rw[if_neg h];simp[qgh h]
theorem qkf (cs:List Nat) (i:Nat):(symsTo cs i).length≤i:=by have:=qc7 (λs=>decide (0<lenAt cs s)) (List.range i);rwa [qgz]at this
theorem qdn (cs:List Nat) (i:Nat):(symsTo cs (i+1)).length=(symsTo cs i).length+if 0<lenAt cs i then 1 else 0:=by rw[qho];split<;>simp
theorem qkd {F G:Nat→Nat} {s:Nat} (hs:s<19) (h0:F s=0) (h1:0<G s) (h:∀j,j<19→j≠s→F j=G j):∀i,i≤19→(symsTo (tolist G) i).length=(symsTo (tolist F) i).length+if s<i then 1 else 0
 | 0,_=>by simp[symsTo]
 | i+1,hi=>by
  have ih:=qkd hs h0 h1 h i (by omega);rw[qdn,qdn,ih,qeu G (by omega),qeu F (by omega)];by_cases e:i=s
  ·subst e;simp[h0,h1]
  ·have hFG:=h i (by omega) e;rw[hFG];by_cases e2:s<i
   ·have e3:s<i+1:=by omega
    simp only[e2,e3,if_true];omega
   ·have e3:¬s<i+1:=by omega
    simp only[e2,e3,if_false];omega
theorem ql1 {F:Nat→Nat}:∀i,i≤19→(∀j,j<i→0<F j)→(symsTo (tolist F) i).length=i
 | 0,_,_=>by simp[symsTo]
 | i+1,hi,h=>by rw[qdn,ql1 i (by omega) λj hj=>h j (by omega),qeu F (by omega),if_pos (h i (by omega))]
theorem qke (cs:List Nat):∀k i,(symsTo cs i).length≤(symsTo cs (i+k)).length
 | 0,i=>qag _
 | k+1,i=>by rw[<-qcu,qdn];have:=qke cs k i;omega
theorem qoc {w w':World} {e:TypeId} {size:Nat} {ao:Option Addr} {len cap:Nat} {xs:List Value} (h:Appended w w' e size [] ao len cap xs):Made w w' e size ao len cap xs:=
 ⟨h.own,h.fr,λx hx=>(h.at_ x hx).elim (λk=>absurd k (by simp)) (λk=>Nat.le_of_eq k.symm),h.le,h.max,h.nil⟩
theorem flat3 (f:Nat→List Bool) (hf:∀i,(f i).length=3):∀t,((List.range t).flatMap f).length=t*3
 | 0=>rfl
 | t+1=>by rw[qjo,qik,qab,flat3 f hf t];simp only[qca,List.flatMap_nil,qb0,hf t];omega
theorem qn2 {α:Type} (f:α→List Bool) (C:Nat):∀l:List α,(∀x∈l,(f x).length≤C)→(l.flatMap f).length≤l.length*C
 | [],_=>by simp
 | x::l,h=>by
  have h1:=qn2 f C l λy hy=>h y (qbw _ hy)
  have h2:=h x qb1;simp only[qca,qab,qam,qct];omega
structure TE (O g8 g9:Nat) (ao:Option Addr) (rn cp:Nat) (cl:List Nat) (rs:List Rn) (w:World):Prop where
 o:w.heap[O]?=some (.cells (ordL.map λx=>Value.int .i64 (x:Nat)).toArray 257 (0,0))
 r:Ri w (some ⟨g8,0,none⟩) 19 cl
 u:U32 w g9 (codesOf cl)
 row:w.ownsRow 0 311 3 (.slice ao rn cp) rn (rcells rs)
theorem TE.fr {O g8 g9:Nat} {ao:Option Addr} {rn cp:Nat} {cl:List Nat} {rs:List Rn} {w w':World} {S:List Nat} (h:TE O g8 g9 ao rn cp cl rs w) (f:Fr S w w') (hn:∀x∈[O,g8,g9]++blk ao,x∉S):TE O g8 g9 ao rn cp cl rs w':=
 ⟨f.blk h.o (hn O (by simp)),qhi h.r f (λx hx=>hn x (by simp only[qbd];left;simp[blk]at hx;simp[hx])),Cs.fr h.u f (λx hx=>hn x (by simp only[qbd];left;simp[blk]at hx;simp[hx])),
  qa7 h.row f (λk hk=>hn k (by
   simp only[qbd];right
   cases ao with
   | none=>cases hk
   | some ad=>simp only[Value.ownBlock,qas]at hk;subst hk;simp[blk]))⟩
theorem TE.ord {O g8 g9:Nat} {ao:Option Addr} {rn cp:Nat} {cl:List Nat} {rs:List Rn} {w:World} (h:TE O g8 g9 ao rn cp cl rs w) {i:Nat} (hi:i<19):w.cell? ⟨O,i,none⟩=some (.int .i64 (ord i:Nat)):=by
 rw[cell_of h.o];have hl:i<ordL.length:=by simp[ordL];omega
 simp[defl.ord,qaf hl]
theorem TE.len {O g8 g9:Nat} {ao:Option Addr} {rn cp:Nat} {cl:List Nat} {rs:List Rn} {w:World} (h:TE O g8 g9 ao rn cp cl rs w) {i:Nat} (hi:i<cl.length):w.cell? ⟨g8,i,none⟩=some (.int .i64 (lenAt cl i:Nat)):=by obtain⟨g,o,e,hc⟩:=h.r.at hi;simp only[qas,qcg,and_true]at e;obtain⟨rfl,rfl⟩:=e;rw[qbe]at hc;rw[hc,lenAt,qaf hi];rfl
theorem TE.code {O g8 g9:Nat} {ao:Option Addr} {rn cp:Nat} {cl:List Nat} {rs:List Rn} {w:World} (h:TE O g8 g9 ao rn cp cl rs w) {i:Nat} (hi:i<cl.length):w.cell? ⟨g9,i,none⟩=some (.int .u32 (codeAt cl i:Nat)):=by obtain⟨g',o',e',hc'⟩:=h.u.at (by simp[codesOf];omega);simp only[qas,qcg,and_true]at e';obtain⟨rfl,rfl⟩:=e';have:=hc' i (.int .u32 (codeAt cl i:Nat)) (by rw[qbx,qi5 hi];rfl);simpa using this
theorem qy0 (p:Nat) (F:List Nat) (l:List Bool) (bV lV:Value) (a1 a2:Option Addr) (c1 c2:Nat) (ll dl:List Nat) (told:Bool) (w:World) (hb1:bV.oneCell'=true) (hl1:lV.oneCell'=true)
  (h1:Ri w a1 c1 ll) (h2:Ri w a2 c2 dl) (hW:Wb w p F l) (n1:ll.length=286) (n2:dl.length=30) (hle1:∀x∈ll,x≤15) (hle2:∀x∈dl,x≤15) (hL:l.length≤562949953000000)
  (hF:∀x∈F,x<w.heap.size∧x∉blk a1∧x∉blk a2) :
  Calls Tryz.prog 235 #[.agg #[bV,lV,.slice a1 286 c1,.slice a2 30 c2,.bool told],.pointer (some ⟨p,0,none⟩)] w λe w'=>e = .returned (.tuple #[])∧Fr F w w'∧
   ∃nl nd nc cl rs b,Told ll dl nl nd nc cl rs b∧∃F',Wb w' p F' (l++b)∧∀y∈F',y∈F∨w.heap.size≤y:=by
 obtain⟨B,hB⟩:=zex w.heap.size;obtain⟨w1,hw1⟩:=zex (w.alloc (.cells #[bV,lV,.slice a1 286 c1,.slice a2 30 c2,.bool told] 130 (0,0)));have f1:Fr [] w w1:=by rw[hw1];exact (Fr.refl [] w).alloc _
 have hbox:w1.heap[B]?=some (.cells #[bV,lV,.slice a1 286 c1,.slice a2 30 c2,.bool told] 130 (0,0)):=by rw[hw1,hB];exact qa4 w _
 have hc1:=qxw a1 c1 ll 257 w1.drew (h1.fr (f1.trans (Fr.drew1 [] w1))) (by omega) (by decide);have hc2:=qxw a2 c2 dl 1 w1.drew (h2.fr (f1.trans (Fr.drew1 [] w1))) (by omega) (by decide);obtain⟨nl,hnl⟩:=zex (cutN ll 257 ll.length);obtain⟨nd,hnd⟩:=zex (cutN dl 1 dl.length);rw[<-hnl,n1]at hc1;rw[<-hnd,n2]at hc2;have hd1:Calls Tryz.prog 239 #[.slice a1 286 c1,.int .i64 257] w1.drew λe w'=>e = .returned (.slice a1 nl c1)∧w'=w1.drew:=hc1
 have hd2:Calls Tryz.prog 239 #[.slice a2 30 c2,.int .i64 1] w1.drew λe w'=>e = .returned (.slice a2 nd c2)∧w'=w1.drew:=hc2
 have hnl1:257≤nl:=by rw[hnl];exact qlk _ _ _ (by omega)
 have hnl2:nl≤286:=by rw[hnl,<-n1];exact qht _ _ _
 have hnd1:1≤nd:=by rw[hnd];exact qlk _ _ _ (by omega)
 have hnd2:nd≤30:=by rw[hnd,<-n2];exact qht _ _ _
 have e2:=cell_of hbox 2;have e3:=cell_of hbox 3;simp only[qae,qaa,qad]at e2 e3;have H:=zhd9 h1 h2 hW n1 n2 hle1 hle2 hL hF;have HC:=zhd2 hd1 hd2;have HN:=zhd4 hnl hnd f1 hB;have HW:=zhd hw1.symm;clear h1 h2 hW n1 n2 hle1 hle2 hL hF hc1 hc2 hd1 hd2 hnl hnd f1 hw1 hbox;go_enter Tryz.func235,Tryz.ntmps235;go_upto_region 1 with fail;rw[HW.out,<-HN.l3];clear hB;refine qcl 6 (by kernel_rfl) (by kernel_rfl) ?_;simp only[qai,qao,qah,qaj];iterate 3 (go_big_quiet_step (exact HC.o0 _))
 iterate 3 (go_big_quiet_step (exact HC.l1 _))
 refine wpQuiet_nil ?_;clear e2 e3;obtain⟨Z,hz,hZ,mk⟩:=qk7 19 (by decide);have mk19:∀w:World,(Instr.makeSlice 128 (.int .i64 19) (.int .i64 19)).run Tryz.prog w = .ok (.slice (some ⟨w.heap.size,0,none⟩) 19 19) (w.alloc (.cells Z 3)):=mk;clear mk;have HZ:=zhd2 hz hZ;clear hz hZ;have r1:=Ri.take (H.o0.fr (HN.o2.trans (Fr.drew1 [] w1))) nl;have r2:=Ri.take (H.o1.fr (HN.o2.trans (Fr.drew1 [] w1))) nd;have tl1:(ll.take nl).length=nl:=by rw[qar,H.o3];omega
 have tl2:(dl.take nd).length=nd:=by rw[qar,H.o4];omega
 have HT:=zhd4 r1 r2 tl1 tl2;clear r1 r2 tl1 tl2;go_upto_region 2 with fail;go_upto_region 3 with (first
  | (refine qa5 qcn rfl _ _ rfl (.slice none 0 0) 0 [] [] rfl rfl (Made.none _ _ _).own a1 nl c1 (ints (ll.take nl)) rfl (by have:=HT.o0.le;have:=HT.o2;omega) HT.o0.nil HT.o0.cs (by rw[qgc,HT.o2,qdi]) (qjz _) (by omega) (by unfold maxLen;omega) ?_;intro ao2 cp2 w2 hap;rw[qbe,qck]at hap;rw[qbe];have HA:=zhd (qoc hap);clear hap)
  | (refine qa5 qcn rfl _ _ rfl (.slice ao2 nl cp2) nl (ints (ll.take nl)) (blk ao2) rfl (qbp ao2 nl cp2) HA.out.own a2 nd c2 (ints (dl.take nd)) rfl (by have:=HT.o1.le;have:=HT.l3;omega) HT.o1.nil (HT.o1.fr HA.out.fr).cs (by rw[qgc,HT.l3,qdi]) (qjz _) (by omega) (by unfold maxLen;omega) ?_;intro ao3 cp3 w3 hap;have HA3:=zhd (HA.out.app hap);clear hap)
  | (go_at_call 240;have hrr:=qzc ao3 cp3 (ll.take nl++dl.take nd) w3 (qnl (by have h3:=HA3.out;rwa [show ints (ll.take nl)++ints (dl.take nd)=ints (ll.take nl++dl.take nd) from by simp[ints]]at h3) (by rw[qab,HT.o2,HT.l3])) (by rw[qab,HT.o2,HT.l3];omega) (λx hx=>(qbd.1 hx).elim (λk=>H.o5 x (qbu k)) (λk=>H.o6 x (qbu k)));rw[qab,HT.o2,HT.l3]at hrr;refine hrr.mono ?_;rintro e w4 ⟨ao4,rn,cp4,rs,rfl,hrn,hmd,hok⟩;have HR:=zhd3 hrn hmd hok;clear hrn hmd hok hrr))
 have HW4:Hid (Fr [] w w4):=zhd ((HN.o2.trans (Fr.drew1 [] w1)).trans (HA3.out.fr.trans HR.out.2.1.fr));obtain⟨Q,hQ⟩:=zex w4.heap.size;obtain⟨w5,hw5⟩:=zex (w4.alloc (.cells Z 3));have HQ:Hid (Ow w5 Q 19 (λ_=>0)∧Fr [] w4 w5):=zhd ⟨⟨Z,by rw[hw5,hQ];exact qa4 w4 _,HZ.o0,HZ.l1⟩,by rw[hw5];exact (Fr.refl [] w4).alloc _⟩;have hrnb:rn≤400:=by have:=HR.out.2.2.len;rw[qab,HT.o2,HT.l3,<-HR.out.1]at this;simp at this;omega
 have HQQ:=zhd2 hQ hw5;clear hQ hw5;go_upto_region 4 with fail;rw[<-HQQ.l1,<-HQQ.o0];clear mk19;go_wp2;go_loopg [9,38] rn (λk s9 s38 wr=>∃t:Nat,s38 = .int .i64 (t:Nat)∧t+k=rn∧Ow wr Q 19 (rcnt (rs.take t))∧Fr [Q] w5 wr);case atStart=>exact⟨0,rfl,by omega,HQ.out.1.congr λs _=>by simp[rcnt],.refl _ _⟩
 case round=>
  obtain⟨t,rfl,htk,how,hf⟩:=hrel;by_cases ht:t<rn
  ·obtain⟨k,rfl⟩:∃k,gk=k+1:=⟨gk-1,by omega⟩;obtain⟨g4,rfl,_,_⟩:=qgb HR.out.2.1.own (by omega);obtain⟨r,hr⟩:∃r,rs[t]?=some r:=⟨_,qaf (by rw[<-HR.out.1];exact ht)⟩;have hs18:=(qg3 HR.out.2.2 r (qa6 hr)).1;have hgQ:g4≠Q:=by have:=HR.out.2.1.lt g4 (by simp[blk]);rw[HQQ.o0];omega
   have hrow:=qa7 (qa7 HR.out.2.1.own HQ.out.2 (by simp)) hf (by simpa[Value.ownBlock] using hgQ);have hd:=qku rs t r hr;obtain⟨rs1,rs2,rs3⟩:=r;simp only at hs18 hd;have d0:wr.cell? ⟨g4,t*3,none⟩=some (.int .i64 rs1):=by rw[<-hd.1];exact qb4 hrow _ (by omega)
   have d1:wr.cell? ⟨g4,t*3+1,none⟩=some (.int .u32 rs2):=by rw[<-hd.2.1];exact qb4 hrow _ (by omega)
   have d2:wr.cell? ⟨g4,t*3+2,none⟩=some (.int .i64 rs3):=by rw[<-hd.2.2];exact qb4 hrow _ (by omega)
   have fA:Fr [] wr (wr.alloc (.cells #[.int .i64 rs1,.int .u32 rs2,.int .i64 rs3] 311 (0,0))):=(Fr.refl [] wr).alloc _;have d3:=(how.fr fA (by simp)).cell (show rs1<19 by omega);have z3:=(how.fr fA (by simp)).frozen rs1;obtain⟨G,hG⟩:=zex (rcnt (rs.take t) rs1);have hGb:G≤1000:=by rw[hG];have:=qvx (rs.take t) rs1;rw[qar]at this;omega
   rw[<-hG]at d3;have hset:=(how.fr fA (by simp)).set (show rs1<19 by omega) (G+1);have fS:Fr [Q] w5 ((wr.alloc (.cells #[.int .i64 rs1,.int .u32 rs2,.int .i64 rs3] 311 (0,0))).setCell ⟨Q,rs1,none⟩ (.int .i64 ((G+1:Nat):Nat))):=(hf.alloc _).setCell (by simp) _;have htake:rs.take (t+1)=rs.take t++[(rs1,rs2,rs3)]:=by rw[List.take_add_one,hr];rfl
   have HJ:=zhd5 hset fS hG htake htk;clear how hf hr hrow hd fA hset fS hG htake htk;go_wp2;go_roundg k;case measure=>omega
   case rel=>
    obtain⟨hset,fS,hG,htake,htk⟩:=HJ.out;refine⟨t+1,by go_num,by omega,?_,fS⟩;rw[htake];refine hset.congr λs _=>?_
    rw[qzh,hG];by_cases e:s=rs1
    ·rw[if_pos e,if_pos e,e]
    ·rw[if_neg e,if_neg e]
  ·obtain rfl:t=rn:=by omega
   rw[qa9 (by rw[<-HR.out.1];exact qag _)]at how;obtain⟨w6,hw6⟩:∃w6:World,w6=wr:=⟨_,rfl⟩;rw[<-hw6]at how hf ⊢;obtain⟨F0,hF0⟩:=zex (rcnt rs);rw[<-hF0]at how;have hFb:∀s,F0 s≤400:=λs=>by rw[hF0];have:=qvx rs s;rw[<-HR.out.1]at this;omega
   have H6:=zhd4 how hf hFb hF0;clear how hf htk hw6 hFb hF0;go_wp2;go_loopg [10,12,52] 19 (λk s10 s12 s52 wz=>∃t m:Nat,s52 = .int .i64 (t:Nat)∧s10 = .int .i64 (m:Nat)∧t+k=19∧m=(symsTo (tolist F0) t).length∧w6=wz);case atStart=>exact⟨0,0,rfl,rfl,rfl,rfl,rfl⟩
   case round=>
    obtain⟨t2,m,rfl,rfl,htk,hm,rfl⟩:=hrel;have hmb:m≤t2:=by rw[hm];exact qkf _ _
    by_cases ht:t2<19
    ·obtain⟨k,rfl⟩:∃k,gk=k+1:=⟨gk-1,by omega⟩;have d3:=H6.o0.cell ht;have hb:=H6.o2 t2;obtain⟨v,hv⟩:=zex (F0 t2);rw[<-hv]at d3 hb;have hsu:=qdn (tolist F0) t2;rw[qeu F0 ht,<-hv,<-hm]at hsu;have HJ:=zhd2 hsu htk;clear hsu htk hm hv;by_cases hv0:0<v
     ·go_wp2;go_roundg k;case measure=>omega
      case rel=>exact⟨t2+1,m+1,by go_num,by go_num,by have:=HJ.out.2;omega,by rw[HJ.out.1,if_pos hv0],rfl⟩
     ·obtain rfl:v=0:=by omega
      go_wp2;go_roundg k;case measure=>omega
      case rel=>exact⟨t2+1,m,by go_num,rfl,by have:=HJ.out.2;omega,by rw[HJ.out.1];simp,rfl⟩
    ·obtain rfl:t2=19:=by omega
     have HM:=zhd hm;clear hm htk ht;go_wp2;go_loopg [10,13] 19 (λk s10 s13 wz=>∃(i m:Nat) (Fc:Nat→Nat),s13 = .int .i64 (i:Nat)∧s10 = .int .i64 (m:Nat)∧i+k=19∧m=(symsTo (tolist Fc) 19).length∧Ow wz Q 19 Fc∧(∀s,s<19→Fc s≤400)∧(∀s,0<F0 s→0<Fc s)∧(∀j,j<i→0<Fc j)∧Fr [Q] w6 wz);case atStart=>exact⟨0,m,F0,rfl,rfl,rfl,HM.out,H6.o0,λs _=>H6.o2 s,λ_ h=>h,λj hj=>absurd hj (by omega),.refl _ _⟩
     case round=>
      obtain⟨i,m,Fc,rfl,rfl,hik,hm,how,hFb,hpos,hall,hf⟩:=hrel;have hmb:m≤19:=by rw[hm];exact qkf _ _
      by_cases hm2:m<2
      ·have hi2:i<2:=by
        have h1:=ql1 (F:=Fc) (min i 19) (by omega) λj hj=>hall j (by omega)
        have h2:=qke (tolist Fc) (19-min i 19) (min i 19);rw[show min i 19+(19-min i 19)=19 from by omega,<-hm,h1]at h2;omega
       obtain⟨k,rfl⟩:∃k,gk=k+1:=⟨gk-1,by omega⟩;have hi19:i<19:=by omega
       have d3:=how.cell hi19;have z3:=how.frozen i;have hb:=hFb i hi19;obtain⟨v,hv⟩:=zex (Fc i);rw[<-hv]at d3 hb;by_cases hv0:v=0
       ·subst hv0;have hset:=how.set hi19 1;have HJ:=zhd8 hset hik hm hFb hpos hall hf hv;clear hset hik hm hFb hpos hall hf hv how;go_wp2;go_roundg k;case measure=>omega
        case rel=>
         obtain⟨hset,hik,hm,hFb,hpos,hall,hf,hv⟩:=HJ.out;refine⟨i+1,m+1,_,by go_num,by go_num,by omega,?_,hset,λs hs=>?_,λs hs=>?_,λj hj=>?_,hf.setCell (by simp) _⟩
         ·rw[qkd (F:=Fc) (s:=i) hi19 hv.symm (by simp) (λj _ hj=>by simp[hj]) 19 (qag _),if_pos hi19,hm]
         ·split
          ·omega
          ·exact hFb s hs
         ·split
          ·omega
          ·exact hpos s hs
         ·split
          ·omega
          ·exact hall j (by omega)
       ·have q:((v:Int)==0)=false:=by simp only[beq_eq_false_iff_ne];omega
        have HJ:=zhd8 how hik hm hFb hpos hall hf hv;clear how hik hm hFb hpos hall hf hv;go_wp2;go_roundg k;case measure=>omega
        case rel=>
         obtain⟨how,hik,hm,hFb,hpos,hall,hf,hv⟩:=HJ.out;refine⟨i+1,m,Fc,by go_num,rfl,by omega,hm,how,hFb,hpos,λj hj=>?_,hf⟩;rcases qbq j i with k1|k1
         ·exact hall j k1
         ·rw[show j=i from by omega,<-hv];omega
      ·have tl:(tolist Fc).length=19:=by simp[tolist]
       have hmem:∀c∈tolist Fc,c≤2^30:=λc hc=>by simp only[tolist,qb8,qdk]at hc;obtain⟨s,hs,rfl⟩:=hc;have:=hFb s hs;omega
       have hri:Ri wr (some ⟨Q,0,none⟩) 19 (tolist Fc):=⟨how.cs,by rw[tl];exact qag _,by unfold maxLen;omega,λh=>by cases h⟩;have hlen:=qe9 (some ⟨Q,0,none⟩) 19 (tolist Fc) 7 wr hri (by decide) (by decide) (by rw[tl];decide) hmem (by rw[tl];have:=qkf (tolist Fc) 19;omega);rw[tl]at hlen;have hlen':Calls Tryz.prog 84 #[.slice (some ⟨Q,0,none⟩) 19 19,.int .i64 7] wr (LensGood 7 (tolist Fc) 19 wr):=hlen;have HJ:=zhd4 hlen' (show 2≤(symsTo (tolist Fc) (tolist Fc).length).length by rw[tl];omega) hpos hf;clear hlen hlen' hri hmem hm hpos hall hf how hFb hik tl;go_upto_region 23 with (go_at_call 84;refine HJ.out.1.mono ?_;rintro e w8 ⟨g8,cl,rfl,ok8,cs8,lo8,hi8,f8⟩;have H8:=zhd5 ok8 cs8 lo8 hi8 f8;clear ok8 cs8 lo8 hi8 f8);have hcl19:cl.length=19:=by rw[H8.o0.len];simp[tolist]
       have hfull:=H8.o0.full HJ.out.2.1;have hri2:Ri w8 (some ⟨g8,0,none⟩) 19 cl:=⟨H8.o1,by rw[hcl19];exact qag _,by unfold maxLen;omega,λh=>by cases h⟩;have hcd:=qih (some ⟨g8,0,none⟩) 19 cl w8 hri2 (λx hx=>by have:=H8.o0.le x hx;omega) (by rw[hcl19];decide) (by rw[hfull];exact qag _);unfold CodesGood at hcd;rw[hcl19]at hcd;have H8b:=zhd4 hcd hri2 hcl19 hfull;clear hcd hri2 hcl19 hfull;go_upto_region 24 with (go_at_call 200;refine H8b.o0.mono ?_;rintro e w9 ⟨g9,rfl,u9,lo9,hi9,f9⟩;have H9:=zhd4 u9 lo9 hi9 f9;clear u9 lo9 hi9 f9);go_cut [18,85] from 85 to 86 (λs18 s85 wz=>∃O:Nat,s18 = .pointer (some ⟨O,0,none⟩)∧wz.heap[O]?=some (.cells (ordL.map λx=>Value.int .i64 (x:Nat)).toArray 257 (0,0))∧Fr [] w9 wz∧w9.heap.size≤O)
       case first=>
        clear H6 HJ H8 H8b H9 HR HM HQ HT HA HA3 HW4 HQQ HC HN HW H HZ;have hinf:(Tryz.prog.info? 257).map (·.size)=some 19:=by kernel_rfl
        go_wp2_with (refine wpList_store_row rfl 257 (.tmp 18) (.tmp 85) rfl w9.heap.size #[.int .i64 16,.int .i64 17,.int .i64 18,.int .i64 0,.int .i64 8,.int .i64 7,.int .i64 9,.int .i64 6,.int .i64 10,.int .i64 5,.int .i64 11,.int .i64 4,.int .i64 12,.int .i64 3,.int .i64 13,.int .i64 2,.int .i64 14,.int .i64 1,.int .i64 15] rfl rfl 257 #[.int .i64 0,.int .i64 0,.int .i64 0,.int .i64 0,.int .i64 0,.int .i64 0,.int .i64 0,.int .i64 0,.int .i64 0,.int .i64 0,.int .i64 0,.int .i64 0,.int .i64 0,.int .i64 0,.int .i64 0,.int .i64 0,.int .i64 0,.int .i64 0,.int .i64 0] (heap_alloc_last w9 _) hinf rfl (by kernel_rfl) ?_;rw[World.setRow_alloc_new]);simp only[Act.put];go_meet;exact⟨w9.heap.size,rfl,qa4 w9 _,(Fr.refl [] w9).alloc _,qag _⟩
       case rest=>
       obtain⟨O,rfl,hO,f10,hO9⟩:=hcut;obtain⟨w10,hw10⟩:∃w10:World,w10=wc:=⟨_,rfl⟩;rw[<-hw10]at hO f10 ⊢;clear hw10;have hcl19:=H8b.o2;have fQ7:Fr [Q] w4 w8:=((HQ.out.2.mono (by simp)).trans (H6.o1.trans HJ.out.2.2.2)).trans (H8.l4.mono (by simp));have f810:Fr [] w8 w10:=H9.l3.trans f10;have te:TE O g8 g9 ao4 t cp4 cl rs w10:=by
        refine⟨hO,H8b.o1.fr f810,Cs.fr H9.o0 f10 (by simp),qa7 (qa7 HR.out.2.1.own fQ7 ?_) f810 (by simp)⟩;intro k hk;have hb:k∈blk ao4:=by
         cases ao4 with
         | none=>cases hk
         | some ad=>simp only[Value.ownBlock,qas]at hk;subst hk;simp[blk]
        have:=HR.out.2.1.lt k hb;rw[<-HQQ.o0]at this;simp;omega
       have fw10:Fr [] w w10:=(HW4.out.step fQ7 (λx hx=>.inr (by simp at hx;rw[hx,HQQ.o0];exact HW4.out.size))).trans f810;have hEl:∀x∈[O,g8,g9]++blk ao4,w.heap.size≤x∧x<w10.heap.size:=by
        intro x hx;have h8:=H8.o2;have h8':=H8.o3;have h9:=H9.o1;have h9':=H9.o2;have s10:=f10.size;have s9:=H9.l3.size;have s4:=HW4.out.size;have s8:=fQ7.size;have s68:=(HJ.out.2.2.2.trans (H8.l4.mono (by simp))).size;have s46:=((HQ.out.2.mono (T:=[Q]) (by simp)).trans H6.o1).size;have sw7:=HJ.out.2.2.2.size;simp only[qbd,qaw,qby,or_false]at hx;rcases hx with (rfl|rfl|rfl)|hx
        ·have:=lt_of_block hO;omega
        ·omega
        ·omega
        ·have h1:=HR.out.2.1.lt x hx;have h2:=HR.out.2.1.new x hx;have h3:=(((HN.o2.trans (Fr.drew1 [] w1)).trans HA3.out.fr)).size;omega
       have HE:=zhd3 te fw10 hEl;have HCL:Hid (Told ll dl nl nd 19 cl rs (lsb 5 (nl-257)++lsb 5 (nd-1)++lsb 4 (19-4)++((List.range 19).flatMap λi=>lsb 3 (lenAt cl (ord i)))++rs.flatMap (rbits cl))):=zhd (by
        refine⟨HN.o0,HN.o1,HR.out.2.2,hcl19,H8.o0.le,H8b.l3,λr hr=>?_,by decide,qag _,λi h1 h2=>absurd h1 (by omega),rfl⟩
        have hr18:=(qg3 HR.out.2.2 r hr).1
        have h0:0<F0 r.1:=by
         rw[H6.l3]
         exact List.count_pos_iff.2 (List.mem_map_of_mem hr)
        have h1:=HJ.out.2.2.1 r.1 h0
        exact H8.o0.pos r.1 (by rw[qeu Fc (by omega)];exact h1))
       have HRN:Hid (t=rs.length):=zhd HR.out.1;have HF0:=zhd H.l8;have HWb:Hid (Wb w10 p F l):=zhd (qin H.o2 fw10 (by simp));have HLL:=zhd H.o7;clear te fw10 hEl fQ7 f810 hO f10 hO9 H6 HJ H8 H8b H9 HR HM HQ HT HA HA3 HW4 HQQ HC HN HW H HZ;go_wp2;go_loopg [19] 15 (λk s19 wz=>∃nc:Nat,s19 = .int .i64 (nc:Nat)∧nc=k+4∧nc≤19∧(∀i,nc≤i→i<19→lenAt cl (ord i)=0)∧w10=wz);case atStart=>exact⟨19,rfl,rfl,qag _,λi h1 h2=>absurd h1 (by omega),rfl⟩
       case round=>
        obtain⟨nc,rfl,hnk,hn19,hz0,rfl⟩:=hrel;have key:(4<nc∧lenAt cl (ord (nc-1))=0)∨(4<nc∧lenAt cl (ord (nc-1))≠0)∨nc=4:=by omega
        rcases key with⟨h4,hv⟩|hstop
        ·obtain⟨q,hq⟩:=zex (nc-1);have e1:(nc:Int)-1=(q:Int):=by omega
         rw[<-hq]at hv;have d1:=HE.o0.ord (show q<19 by omega);have hol:=qo3 q;obtain⟨y,hy⟩:=zex (ord q);rw[<-hy]at d1 hol hv;have d2:=HE.o0.len (show y<cl.length by omega);rw[hv]at d2;have hq19:q<19:=by omega
         have HJ:=zhd5 hq hy hv hz0 hnk;clear hq hy hv hz0 hnk;go_wp2;go_roundg (gk-1);case measure=>have:=HJ.out.2.2.2.2;omega
         case rel=>
          obtain⟨hq,hy,hv,hz0,hnk⟩:=HJ.out;refine⟨q,by go_num,by omega,by omega,λi h1 h2=>?_,rfl⟩;rcases qbq i nc with k1|k1
          ·rw[show i=q from by omega,<-hy];exact hv
          ·exact hz0 i k1 h2
        ·have HNC:Hid (4≤nc∧∀i,nc≤i→i<19→lenAt cl (ord i)=0):=zhd ⟨by omega,hz0⟩;have hnc4:4≤nc:=by omega
         clear hz0;have hk4:(4<nc→lenAt cl (ord (nc-1))≠0):=by omega
         have HST:=zhd hk4;clear hstop hk4 hnk;go_upto_region 26 with fail;go_cut [97] from 86 to 98 (λs97 wz=>s97 = .bool false∧w10=wz)
         case first=>
          by_cases h4:4<nc
          ·obtain⟨q,hq⟩:=zex (nc-1);have e1:(nc:Int)-1=(q:Int):=by omega
           have hv:=HST.out h4;rw[<-hq]at hv;have d1:=HE.o0.ord (show q<19 by omega);have hol:=qo3 q;obtain⟨y,hy⟩:=zex (ord q);rw[<-hy]at d1 hol hv;have d2:=HE.o0.len (show y<cl.length by omega);obtain⟨v,hvv⟩:=zex (lenAt cl y);rw[<-hvv]at d2 hv;have hq19:q<19:=by omega
           have q1:((v:Int)==0)=false:=by simp only[beq_eq_false_iff_ne];omega
           clear hq hy hvv;go_wp2;go_meet;exact⟨rfl,rfl⟩
          ·obtain rfl:nc=4:=by omega
           go_wp2;go_meet;exact⟨rfl,rfl⟩
         case rest=>
         obtain⟨rfl,rfl⟩:=hcut;have hEF:∀x∈[O,g8,g9]++blk ao4,x∉F:=λx hx hxF=>by have h1:=(HE.l2 x hx).1;have h2:=(HF0.out x hxF).1;omega
         have HEF:=zhd hEF;clear hEF;obtain⟨k1,hk1⟩:=zex (nl-257);obtain⟨k2,hk2⟩:=zex (nd-1);obtain⟨k3,hk3⟩:=zex (nc-4);have e1:(nl:Int)-257=(k1:Int):=by omega
         have e2:(nd:Int)-1=(k2:Int):=by omega
         have e3:(nc:Int)-4=(k3:Int):=by omega
         have b1:k1≤100:=by omega
         have b2:k2≤100:=by omega
         have b3:k3≤100:=by omega
         have HK:=zhd3 hk1 hk2 hk3;clear hk1 hk2 hk3;have hp1:Calls Tryz.prog 238 #[.pointer (some ⟨p,0,none⟩),.int .u32 k1,.int .i64 5] w10 (WbPost p F w10 (l++lsb 5 k1)):=qqj p F l k1 5 w10 HWb.out (by omega) (by decide) (by have:=HLL.out;omega);have HP1:=zhd hp1;clear hp1;go_upto_region 29 with (go_at_call 238;refine HP1.out.mono ?_;rintro e w11 ⟨rfl,f11,g11⟩;have H11:=zhd (Pg.step (Pg.start HWb.out) f11 g11);clear f11 g11);obtain⟨F11,hq11⟩:=H11.out;have hp2:Calls Tryz.prog 238 #[.pointer (some ⟨p,0,none⟩),.int .u32 k2,.int .i64 5] w11 (WbPost p F11 w11 ((l++lsb 5 k1)++lsb 5 k2)):=qqj p F11 _ k2 5 w11 hq11.wb (by omega) (by decide) (by rw[qab,lsb_length];have:=HLL.out;omega);have HP2:=zhd hp2;have HQ11:=zhd hq11;clear hp2 hq11;go_upto_region 30 with (go_at_call 238;refine HP2.out.mono ?_;rintro e w12 ⟨rfl,f12,g12⟩;have H12:=zhd (Pg.step HQ11.out f12 g12);clear f12 g12);obtain⟨F12,hq12⟩:=H12.out;have hp3:Calls Tryz.prog 238 #[.pointer (some ⟨p,0,none⟩),.int .u32 k3,.int .i64 4] w12 (WbPost p F12 w12 (((l++lsb 5 k1)++lsb 5 k2)++lsb 4 k3)):=qqj p F12 _ k3 4 w12 hq12.wb (by omega) (by decide) (by rw[qab,qab,lsb_length,lsb_length];have:=HLL.out;omega);have HP3:=zhd hp3;have HQ12:=zhd hq12;clear hp3 hq12;go_upto_region 31 with (go_at_call 238;refine HP3.out.mono ?_;rintro e w13 ⟨rfl,f13,g13⟩;have H13:=zhd (Pg.step HQ12.out f13 g13);clear f13 g13);obtain⟨F13,hq13⟩:=H13.out;obtain⟨L3,hL3⟩:=zex (((l++lsb 5 k1)++lsb 5 k2)++lsb 4 k3);rw[<-hL3]at hq13;have hL3b:L3.length=l.length+14:=by rw[hL3];simp only[qab,lsb_length]
         have HQ13:=zhd3 hq13 hL3 hL3b;have hsl:=qoo O nc hn19;clear hq13 hL3 hL3b e1 e2 e3;go_wp2;go_loopg [21,120] nc (λk s21 s120 wz=>∃(t:Nat) (F':List Nat),s120 = .int .i64 (t:Nat)∧t+k=nc∧Pg p F w10 (L3++(List.range t).flatMap λi=>lsb 3 (lenAt cl (ord i))) F' wz);case atStart=>exact⟨0,F13,rfl,by omega,by simpa using HQ13.o0⟩
         case round=>
          obtain⟨t2,F',rfl,htk,hpg⟩:=hrel;by_cases ht:t2<nc
          ·obtain⟨k,rfl⟩:∃k,gk=k+1:=⟨gk-1,by omega⟩;have te:=HE.o0.fr hpg.fr HEF.out;have d1:=te.ord (show t2<19 by omega);have hol:=qo3 t2;obtain⟨y,hy⟩:=zex (ord t2);rw[<-hy]at d1 hol;have d2:=te.len (show y<cl.length by omega);obtain⟨v,hvv⟩:=zex (lenAt cl y);have hv7:v≤7:=by rw[hvv];exact HCL.out.cle _ (qdx (by omega))
           rw[<-hvv]at d2;have hlen3:((List.range t2).flatMap λi=>lsb 3 (lenAt cl (ord i))).length=t2*3:=flat3 _ (λi=>lsb_length _ _) t2;have hput:Calls Tryz.prog 238 #[.pointer (some ⟨p,0,none⟩),.int .u32 v,.int .i64 3] wr (WbPost p F' wr ((L3++(List.range t2).flatMap λi=>lsb 3 (lenAt cl (ord i)))++lsb 3 v)):=qqj p F' _ v 3 wr hpg.wb (by omega) (by decide) (by rw[qab,hlen3,HQ13.l2];have:=HLL.out;omega);have HJ:=zhd5 hput hpg hy hvv htk;clear hput hpg hy hvv htk te hlen3;go_wp2_with (go_at_call 238;refine HJ.out.1.mono ?_;rintro e w14 ⟨rfl,f14,g14⟩;have H14:=zhd (Pg.step HJ.out.2.1 f14 g14);clear f14 g14);go_roundg k;case measure=>omega
           case rel=>obtain⟨F14,h14⟩:=H14.out;obtain⟨_,_,hy,hvv,htk⟩:=HJ.out;refine⟨t2+1,F14,by go_num,by omega,?_⟩;rw[qjo,qik,<-qat];simp only[qca,List.flatMap_nil,qb0];rw[<-hy,<-hvv];exact h14
          ·obtain rfl:t2=nc:=by omega
           obtain⟨L4,hL4⟩:=zex (L3++(List.range t2).flatMap λi=>lsb 3 (lenAt cl (ord i)));rw[<-hL4]at hpg;have hL4b:L4.length≤l.length+100:=by rw[hL4,qab,flat3 _ (λi=>lsb_length _ _) t2,HQ13.l2];omega
           have HQ4:=zhd3 hpg hL4 hL4b;clear hpg hL4 hL4b htk ht hsl;go_wp2;go_loopg [23,134] t (λk s23 s134 wz=>∃(t3:Nat) (F':List Nat),s134 = .int .i64 (t3:Nat)∧t3+k=t∧Pg p F w10 (L4++(rs.take t3).flatMap (rbits cl)) F' wz);case atStart=>exact⟨0,_,rfl,by omega,by simpa using HQ4.o0⟩
           case round=>
            obtain⟨t3,F',rfl,htk,hpg⟩:=hrel;by_cases ht:t3<t
            ·obtain⟨k,rfl⟩:∃k,gk=k+1:=⟨gk-1,by omega⟩;have te:=HE.o0.fr hpg.fr HEF.out;obtain⟨g4,rfl,_,_⟩:=qgb te.row (by omega);obtain⟨r,hr⟩:∃r,rs[t3]?=some r:=⟨_,qaf (by rw[<-HRN.out];exact ht)⟩;have hsy:=qg3 HCL.out.runs r (qa6 hr);have hd:=qku rs t3 r hr;have htake:(rs.take (t3+1)).flatMap (rbits cl)=(rs.take t3).flatMap (rbits cl)++rbits cl r:=by rw[List.take_add_one,hr];simp
             obtain⟨ra,rb,rc⟩:=r;simp only at hsy hd;have d0:wr.cell? ⟨g4,t3*3,none⟩=some (.int .i64 ra):=by rw[<-hd.1];exact qb4 te.row _ (by omega)
             have d1:wr.cell? ⟨g4,t3*3+1,none⟩=some (.int .u32 rb):=by rw[<-hd.2.1];exact qb4 te.row _ (by omega)
             have d2:wr.cell? ⟨g4,t3*3+2,none⟩=some (.int .i64 rc):=by rw[<-hd.2.2];exact qb4 te.row _ (by omega)
             obtain⟨S0,hS0⟩:=zex wr.heap.size;obtain⟨W1,hW1⟩:∃W1,W1=wr.alloc (.cells #[.int .i64 (ra:Nat),.int .u32 (rb:Nat),.int .i64 (rc:Nat)] 311 (0,0)):=⟨_,rfl⟩;have fA:Fr [] wr W1:=by rw[hW1];exact (Fr.refl [] wr).alloc _
             have hblk:W1.heap[S0]?=some (.cells #[.int .i64 ra,.int .u32 rb,.int .i64 rc] 311 (0,0)):=by rw[hW1,hS0];exact qa4 wr _
             have hSF:S0∉F':=λhx=>by have:=qta hpg.wb S0 hx;omega
             have te1:=te.fr fA (by simp);have hra:ra<cl.length:=by omega
             have x1:=te1.len hra;have x2:=te1.code hra;have y0:=cell_of hblk 0;have y1:=cell_of hblk 1;have y2:=cell_of hblk 2;simp only[qae,qaa,qad]at y0 y1 y2;have hle15:∀x∈cl,x≤15:=λx hx=>by have:=HCL.out.cle x hx;omega
             have hflen:((rs.take t3).flatMap (rbits cl)).length≤400*30:=by
              have hb:∀r∈rs,(rbits cl r).length≤30:=λr hr=>by have h1:=qdo cl hle15 r.1;have h2:=(qg3 HCL.out.runs r hr).2.2;unfold rbits;rw[qab,lsb_length];omega
              have h3:=qn2 (rbits cl) 30 (rs.take t3) λr hr=>hb r (qbu hr)
              rw[qar]at h3;have h4:min t3 rs.length*30≤400*30:=qcy _ (by omega);omega
             have hcode:=qpr p F' _ cl ra W1.drew (qin hpg.wb (fA.trans (Fr.drew1 [] W1)) (by simp)) hle15 (by rw[HCL.out.full];exact qag _) (by rw[qab];have:=HQ4.l2;have:=HLL.out;omega);obtain⟨xc,hxc⟩:=zex (codeAt cl ra);obtain⟨xl,hxl⟩:=zex (lenAt cl ra);rw[<-hxc]at x2 hcode;rw[<-hxl]at x1 hcode;have hra19:ra<19:=by omega
             have HJ:=zhd10 hcode hpg fA hblk hSF htake htk hsy hflen hle15;have HS:=zhd2 hS0 hW1;clear hcode hpg fA hblk hSF htake htk hsy hflen hle15 te te1 hr hd hxc hxl hS0 hW1;go_upto_region 39 with fail;rw[<-HS.l1,<-HS.o0];clear d0 d1 d2;refine qcl 11 (by kernel_rfl) (by kernel_rfl) ?_;simp only[qai,qao,qah,qaj];repeat (go_big_quiet_step (fail))
             refine wpQuiet_nil ?_;clear x1 x2 y0 y1 y2;go_upto_region 40 with (go_at_call 237;refine HJ.out.1.mono ?_;rintro e w15 ⟨rfl,f15,g15⟩;have H15:=zhd2 f15 (Pg.step (HJ.out.2.1.fr0 (HJ.out.2.2.1.trans (Fr.drew1 [] W1))) f15 g15);clear f15 g15);obtain⟨F15,hp15⟩:=H15.out.2;have hb15:=H15.out.1.blk (w:=W1.drew) HJ.out.2.2.2.1 HJ.out.2.2.2.2.1;have y1:=cell_of hb15 1;have y2:=cell_of hb15 2;simp only[qae,qaa,qad]at y1 y2;have hput:=qqj p F15 _ rb rc w15 hp15.wb (by have:=HJ.out.2.2.2.2.2.2.2.1;omega) (by have:=HJ.out.2.2.2.2.2.2.2.1;omega) (by rw[qab,qab];have:=HQ4.l2;have:=HLL.out;have:=HJ.out.2.2.2.2.2.2.2.2.1;have:=qdo cl HJ.out.2.2.2.2.2.2.2.2.2 ra;omega);have HP15:=zhd2 hput hp15;clear hput hp15 hb15;go_wp2_with (go_at_call 238;refine HP15.o0.mono ?_;rintro e w16 ⟨rfl,f16,g16⟩;have H16:=zhd (Pg.step HP15.l1 f16 g16);clear f16 g16);go_roundg k;case measure=>omega
             case rel=>obtain⟨F16,h16⟩:=H16.out;obtain⟨_,_,_,_,_,htake,htk,_⟩:=HJ.out;refine⟨t3+1,F16,by go_num,by omega,?_⟩;rw[htake,<-qat];unfold rbits;rw[<-qat];exact h16
            ·obtain rfl:t3=t:=by omega
             rw[qa9 (by rw[HRN.out];exact qag _)]at hpg;have HJ:=zhd hpg;clear hpg htk;go_wp2;(try simp only[Exit.inBlock,Exit.then]);refine bodyPost_end (results_none rfl _ _ _) rfl ?_;have hq:=HJ.out;refine⟨rfl,(HE.o1.mono (by simp)).trans hq.fr,nl,nd,t2,cl,rs,_,{ HCL.out with nc4:=HNC.out.1,nc19:=hn19,rest:=HNC.out.2,bits:=rfl },_,?_,λy hy=>(hq.new y hy).imp id λk=>qan HE.o1.size k⟩;have h3:=hq.wb;rw[HQ4.o1,HQ13.o1]at h3;rw[<-HK.o0,<-HK.o1,<-HK.l2];simpa only[qat] using h3
theorem qma {w:World} {a:Option Addr} {cap:Nat} {xs:List Nat} (h:Ri w a cap xs) (hn:0<xs.length):∀x∈blk a,x<w.heap.size:=by intro x hx;obtain⟨g,o,rfl,_⟩:=h.at hn;have:=h.cs.lt (by intro e;have:=congrArg List.length e;rw[qa8]at this;simp at this;rw[this]at hn;simp at hn) ⟨g,o,none⟩ rfl;simp[blk]at hx;rw[hx];exact this
def CodedBits (ll dl:List Nat) (T:List Tok) (last told:Bool) (b:List Bool):Prop:=
 ∃hd,b=[last]++lsb 2 (if told then 2 else 1)++hd++tsbits ll dl T++sbits ll 256∧(told=false→hd=[])∧(told=true→∃nl nd nc cl rs,Told ll dl nl nd nc cl rs hd)
theorem qrs {ll dl:List Nat} {nl nd nc:Nat} {cl:List Nat} {rs:List Rn} {b:List Bool} (h:Told ll dl nl nd nc cl rs b) (h1:ll.length=286) (h2:dl.length=30):b.length≤20000:=by
 have hr:=h.runs.len;rw[qab,qar,qar]at hr;have hle:∀x∈cl,x≤15:=λx hx=>by have:=h.cle x hx;omega
 have h3:=qn2 (rbits cl) 30 rs λr hr=>by have k1:=qdo cl hle r.1;have k2:=(qg3 h.runs r hr).2.2;unfold rbits;rw[qab,lsb_length];omega
 have hrs:rs.length≤316:=by simp at hr;omega
 have h4:rs.length*30≤316*30:=qcy _ hrs;have h5:=h.nc19;rw[h.bits];simp only[qab,lsb_length,flat3 _ (λi=>lsb_length _ _)];omega
theorem qug (p:Nat) (F:List Nat) (l0:List Bool) (b:List UInt8) (a al:Option Addr) (cap cl r:Nat) (l:List Mt) (a1 a2:Option Addr) (c1 c2:Nat) (ll dl:List Nat) (told last:Bool) (w:World)
  (hb:Rd w a cap b) (hl:Cs w al (mcells l)) (hlc:l.length≤cl) (hln:al=none→cl=0) (hcm:cl≤maxLen) (hch:Chain b r 0 l) (hr:r≤32768) (hblen:b.length≤1000000)
  (h1:Ri w a1 c1 ll) (h2:Ri w a2 c2 dl) (hW:Wb w p F l0) (n1:286≤ll.length) (n1':ll.length≤400) (n2:30≤dl.length) (n2':dl.length≤400) (nt:told=true→ll.length=286∧dl.length=30)
  (hle1:∀x∈ll,x≤15) (hle2:∀x∈dl,x≤15) (hw1:weight ll≤32768) (hw2:weight dl≤32768) (hL:l0.length≤1000000000)
  (hF:∀x∈F,x<w.heap.size∧x∉blk a1∧x∉blk a2∧x∉blk a∧x∉blk al) (hla:∀x∈blk a,x<w.heap.size) (hll:∀x∈blk al,x<w.heap.size) :
  Calls Tryz.prog 233 #[.agg #[.slice a b.length cap,.slice al l.length cl,.slice a1 ll.length c1,.slice a2 dl.length c2,.bool told],.pointer (some ⟨p,0,none⟩),.bool last] w λe w'=>
   e = .returned (.tuple #[])∧Fr F w w'∧∃bb,CodedBits ll dl (toks b 0 l) last told bb∧∃F',Wb w' p F' (l0++bb)∧∀y∈F',y∈F∨w.heap.size≤y:=by
 obtain⟨B,hB⟩:=zex w.heap.size;obtain⟨BL,hBL⟩:=zex b.length;obtain⟨LL,hLL⟩:=zex l.length;obtain⟨m1,hm1⟩:=zex ll.length;obtain⟨m2,hm2⟩:=zex dl.length;rw[<-hBL,<-hLL,<-hm1,<-hm2];obtain⟨w1,hw1'⟩:∃w1,w1=(w.alloc (.cells #[.slice a BL cap,.slice al LL cl,.slice a1 m1 c1,.slice a2 m2 c2,.bool told] 130 (0,0))).alloc (.cells #[.pointer (some ⟨p,0,none⟩)] 198 (0,0)):=⟨_,rfl⟩;have f1:Fr [] w w1:=by rw[hw1'];exact ((Fr.refl [] w).alloc _).alloc _
 have hbox:w1.heap[B]?=some (.cells #[.slice a BL cap,.slice al LL cl,.slice a1 m1 c1,.slice a2 m2 c2,.bool told] 130 (0,0)):=by rw[hw1',hB];exact alloc_old _ (qa4 w _)
 have hbx2:w1.heap[B+1]?=some (.cells #[.pointer (some ⟨p,0,none⟩)] 198 (0,0)):=by rw[hw1',hB];have:=qa4 (w.alloc (.cells #[.slice a BL cap,.slice al LL cl,.slice a1 m1 c1,.slice a2 m2 c2,.bool told] 130 (0,0))) (.cells #[.pointer (some ⟨p,0,none⟩)] 198 (0,0));rwa [qav]at this
 have hs1:w1.heap.size=B+2:=by rw[hw1',qav,qav,<-hB]
 have hW1:Wb w1 p F l0:=qin hW f1 (by simp);have hBF:B∉F∧B+1∉F:=⟨λh=>by have:=(hF B h).1;omega,λh=>by have:=(hF (B+1) h).1;omega⟩;have H:=zhd11 hb hl hlc hln hcm hch hr hblen h1 h2 nt;have HR:=zhd10 n1 n1' n2 n2' hle1 hle2 hw1 hw2 hL hF;have HE:=zhd5 hBL hLL hm1 hm2 hB;have HW:=zhd6 f1 hbox hbx2 hs1 hW1 hBF;have HWW:=zhd hw1'.symm;have HLA:=zhd2 hla hll;clear hla hll;have e4:=cell_of hbox 4;have d0:=cell_of hbx2 0;simp only[qae,qaa,qad]at e4 d0;clear hb hl hlc hln hcm hch hr hblen h1 h2 nt n1 n1' n2 n2' hle1 hle2 hw1 hw2 hL hF hBL hLL hm1 hm2 f1 hbox hbx2 hs1 hW1 hBF hw1' hW;go_enter Tryz.func233,Tryz.ntmps233;go_upto_region 1 with fail;rw[HWW.out,<-HE.l4];clear hB;go_upto_if 11 with fail;obtain⟨pp,hpp⟩:=zex (B+1);rw[<-hpp]at d0 ⊢;have HPP:=zhd hpp;clear hpp;go_cut [] from 11 to 21 (λwz=>∃hd F',((told=false→hd=[])∧(told=true→∃nl nd nc cl rs,Told ll dl nl nd nc cl rs hd))∧Pg p F w1 (l0++([last]++lsb 2 (if told then 2 else 1))++hd) F' wz)
 case first=>
  cases told with
  | false=>
   have hh:Calls Tryz.prog 234 #[.pointer (some ⟨p,0,none⟩),.bool last,.int .u32 1] w1 (WbPost p F w1 (l0++last::lsb 2 1)):=qnz p F l0 last 1 w1 HW.o4 (by decide) (by have:=HR.o8;omega);have HH:=zhd hh;clear hh;go_wp2_with (go_at_call 234;refine HH.out.mono ?_;rintro e w2 ⟨rfl,f2,g2⟩;have H2:=zhd (Pg.step (Pg.start HW.o4) f2 g2);clear f2 g2);go_meet;obtain⟨F2,h2⟩:=H2.out;exact⟨[],F2,⟨λ_=>rfl,(λh=>by cases h)⟩,by simpa using h2⟩
  | true=>
   have hh:Calls Tryz.prog 234 #[.pointer (some ⟨p,0,none⟩),.bool last,.int .u32 2] w1 (WbPost p F w1 (l0++last::lsb 2 2)):=qnz p F l0 last 2 w1 HW.o4 (by decide) (by have:=HR.o8;omega);have HH:=zhd hh;have hnt:=H.l10 rfl;have hm286:m1=286:=by rw[HE.o2];exact hnt.1
   have hm30:m2=30:=by rw[HE.o3];exact hnt.2
   subst hm286;subst hm30;clear hh hnt;go_upto_region 3 with (go_at_call 234;refine HH.out.mono ?_;rintro e w2 ⟨rfl,f2,g2⟩;have H2:=zhd (Pg.step (Pg.start HW.o4) f2 g2);clear f2 g2);obtain⟨F2,hp2⟩:=H2.out;have hbx:=hp2.fr.blk HW.o1 HW.l5.1;have hbp:=hp2.fr.blk HW.o2 HW.out.2.2.2.2.2.2;rw[<-HPP.out]at hbp;have y0:=cell_of hbx 0;have y1:=cell_of hbx 1;have y2:=cell_of hbx 2;have y3:=cell_of hbx 3;have y4:=cell_of hbx 4;have y5:=cell_of hbp 0;simp only[qae,qaa,qad]at y0 y1 y2 y3 y4 y5;have fr2:Fr F w w2:=(HW.o0.mono (by simp)).trans hp2.fr;have htell:=qy0 p F2 _ (.slice a BL cap) (.slice al LL cl) a1 a2 c1 c2 ll dl true w2 rfl rfl
    (qhi H.o8 fr2 (λx hx hxF=>(HR.l9 x hxF).2.1 hx)) (qhi H.o9 fr2 (λx hx hxF=>(HR.l9 x hxF).2.2.1 hx)) hp2.wb HE.o2.symm HE.o3.symm HR.o4 HR.o5
    (by rw[qab,qam,lsb_length];have:=HR.o8;omega)
    (λx hx=>by
     refine⟨qta hp2.wb x hx,λh=>?_,λh=>?_⟩
     ·rcases hp2.new x hx with k|k
      ·exact (HR.l9 x k).2.1 h
      ·have h3:=qma H.o8 (by have:=HR.o0;omega) x h
       have:=HW.o0.size
       omega
     ·rcases hp2.new x hx with k|k
      ·exact (HR.l9 x k).2.2.1 h
      ·have h3:=qma H.o9 (by have:=HR.o2;omega) x h
       have:=HW.o0.size
       omega)
   have HT:=zhd htell;have HP2:=zhd hp2;clear htell hp2 hbx hbp fr2;go_wp2_with (go_at_call 235;refine HT.out.mono ?_;rintro e w3 ⟨rfl,f3,nl,nd,nc,cl2,rs,bt,ht,g3⟩;have H3:=zhd2 (show ∃nl nd nc cl rs,Told ll dl nl nd nc cl rs bt from ⟨nl,nd,nc,cl2,rs,ht⟩) (Pg.step HP2.out f3 g3);clear f3 g3 ht);go_meet;obtain⟨F3,h3⟩:=H3.out.2;exact⟨bt,F3,⟨(λh=>by cases h),λ_=>H3.out.1⟩,by simpa using h3⟩
 case rest=>
 obtain⟨hd,F2,hhd,hpg⟩:=hcut;obtain⟨w2,hw2⟩:∃w2:World,w2=wc:=⟨_,rfl⟩;rw[<-hw2]at hpg ⊢;clear hw2 e4 d0;have hdl:hd.length≤20000:=by
  cases told with
  | false=>rw[hhd.1 rfl];exact qba _
  | true=>obtain⟨nl,nd,nc,cl2,rs,ht⟩:=hhd.2 rfl;have hnt:=H.l10 rfl;exact qrs ht hnt.1 hnt.2
 have fr2:Fr F w w2:=(HW.o0.mono (by simp)).trans hpg.fr;have hbx:=hpg.fr.blk HW.o1 HW.l5.1;have hbp:=hpg.fr.blk HW.o2 HW.out.2.2.2.2.2.2;rw[<-HPP.out]at hbp;have ri1:=qhi H.o8 fr2 (λx hx hxF=>(HR.l9 x hxF).2.1 hx);have ri2:=qhi H.o9 fr2 (λx hx hxF=>(HR.l9 x hxF).2.2.1 hx);have hc1:=qih a1 c1 ll w2 ri1 HR.o4 HR.o1 HR.o6;unfold CodesGood at hc1;rw[<-HE.o2]at hc1;have y2:=cell_of hbx 2;simp only[qae,qaa,qad]at y2;have H2:=zhd8 hhd hpg hdl fr2 hbx hbp ri1 ri2;have HC1:=zhd hc1;clear hhd hpg hdl fr2 hbx hbp ri1 ri2 hc1;go_upto_region 6 with (go_at_call 200;refine HC1.out.mono ?_;rintro e w3 ⟨g1,rfl,u3,lo3,hi3,f3⟩;have H3:=zhd4 u3 lo3 hi3 f3;clear u3 lo3 hi3 f3);clear y2;obtain⟨q6,hq6⟩:=zex w3.heap.size;obtain⟨w4,hw4⟩:=zex (w3.alloc (.cells #[.slice (some ⟨g1,0,none⟩) m1 m1] 91 (0,0)));have hb4:w4.heap[q6]?=some (.cells #[.slice (some ⟨g1,0,none⟩) m1 m1] 91 (0,0)):=by rw[hw4,hq6];exact qa4 w3 _
 have f4:Fr [] w3 w4:=by rw[hw4];exact (Fr.refl [] w3).alloc _
 rw[<-hw4,<-hq6];have H4:=zhd4 hb4 f4 hq6 hw4;clear hb4 f4 hq6 hw4;have f24:Fr [] w2 w4:=H3.out.2.2.2.trans H4.o1;have hc2:=qih a2 c2 dl w4 (H2.out.2.2.2.2.2.2.2.fr f24) HR.o5 HR.o3 HR.o7;unfold CodesGood at hc2;rw[<-HE.o3]at hc2;have y3:=cell_of (f24.blk H2.out.2.2.2.2.1 (by simp)) 3;simp only[qae,qaa,qad]at y3;have HC2:=zhd2 hc2 f24;clear hc2 f24;go_upto_region 7 with (go_at_call 200;refine HC2.o0.mono ?_;rintro e w5 ⟨g2,rfl,u5,lo5,hi5,f5⟩;have H5:=zhd4 u5 lo5 hi5 f5;clear u5 lo5 hi5 f5);clear y3;obtain⟨q8,hq8⟩:=zex w5.heap.size;obtain⟨w6,hw6⟩:=zex (w5.alloc (.cells #[.slice (some ⟨g2,0,none⟩) m2 m2] 91 (0,0)));have hb6:w6.heap[q8]?=some (.cells #[.slice (some ⟨g2,0,none⟩) m2 m2] 91 (0,0)):=by rw[hw6,hq8];exact qa4 w5 _
 have f6:Fr [] w5 w6:=by rw[hw6];exact (Fr.refl [] w5).alloc _
 rw[<-hw6,<-hq8];have H6:=zhd4 hb6 f6 hq8 hw6;clear hb6 f6 hq8 hw6;have f46:Fr [] w4 w6:=H5.l3.trans H6.o1;have f26:Fr [] w2 w6:=HC2.l1.trans f46;have hbx6:=f26.blk H2.out.2.2.2.2.1 (by simp);have hbp6:=f26.blk H2.out.2.2.2.2.2.1 (by simp);have env:Env p pp q6 B q8 g1 g2 a1 a2 c1 c2 m1 m2 ll dl w6:=by have k0:=cell_of hbp6 0;have k2:=cell_of hbx6 2;have k3:=cell_of hbx6 3;have k6:=cell_of (f46.blk H4.o0 (by simp)) 0;have k8:=cell_of H6.o0 0;simp only[qae,qaa,qad]at k0 k2 k3 k6 k8;exact⟨k0,k6,k2,k3,k8,Cs.fr H3.out.1 (H4.o1.trans f46) (by simp),Cs.fr H5.o0 H6.o1 (by simp),H2.out.2.2.2.2.2.2.1.fr f26,H2.out.2.2.2.2.2.2.2.fr f26,HE.o2,HE.o3⟩
 have hs12:=H2.out.2.1.fr.size;have hs23:=H3.out.2.2.2.size;have hs34:=H4.o1.size;have hs45:=H5.l3.size;have hs56:=H6.o1.size;have hsw:=HW.o0.size;have hzB:=HW.o3;have hEB:∀x∈envB pp q6 B q8 g1 g2 a1 a2,x∉F2∧x<w6.heap.size:=by
  intro x hx;have hn:=H2.out.2.1.new x;have ha1:=qma H.o8 (by have:=HR.o0;omega) x;have ha2:=qma H.o9 (by have:=HR.o2;omega) x;have hlw:x∈F2→x<w2.heap.size:=qta H2.out.2.1.wb x;have k3:=H3.out.2.1;have k3':=H3.out.2.2.1;have k5:=H5.o1;have k5':=H5.o2;have kq6:=H4.o2;have kq8:=H6.o2;have kpp:=HPP.out;have l6:=lt_of_block H4.o0;have l8:=lt_of_block H6.o0;have lB:=lt_of_block hbx6;have lp:=lt_of_block hbp6;simp only[envB,qbd,qaw,qby,or_false]at hx;rcases hx with ((rfl|rfl|rfl|rfl|rfl|rfl)|hx)|hx
  ·refine⟨λh=>?_,by omega⟩;rcases hn h with k|k
   ·rw[kpp]at k;exact HW.out.2.2.2.2.2.2 k
   ·omega
  ·exact⟨λh=>by have:=hlw h;omega,by omega⟩
  ·refine⟨λh=>?_,by omega⟩;rcases hn h with k|k
   ·exact HW.l5.1 k
   ·omega
  ·exact⟨λh=>by have:=hlw h;omega,by omega⟩
  ·exact⟨λh=>by have:=hlw h;omega,by omega⟩
  ·exact⟨λh=>by have:=hlw h;omega,by omega⟩
  ·have:=ha1 hx;refine⟨λh=>?_,by omega⟩;rcases hn h with k|k
   ·exact (HR.l9 x k).2.1 hx
   ·omega
  ·have:=ha2 hx;refine⟨λh=>?_,by omega⟩;rcases hn h with k|k
   ·exact (HR.l9 x k).2.2.1 hx
   ·omega
 obtain⟨L0,hL0⟩:=zex (l0++([last]++lsb 2 (if told then 2 else 1))++hd);have hL0b:L0.length≤1000100000:=by rw[hL0];simp only[qab,lsb_length,qam,qbb];have:=HR.o8;have:=H2.out.2.2.1;omega
 have hwb6:Wb w6 p F2 L0:=by rw[hL0];exact qin H2.out.2.1.wb f26 (by simp)
 have fw6:Fr F w w6:=H2.out.2.2.2.1.trans (f26.mono (by simp));have hbr:Rd w6 a cap b:=H.o0.frS fw6 λx hx hxF=>(HR.l9 x hxF).2.2.2.1 hx
 have hlr:Cs w6 al (mcells l):=H.o1.fr fw6 λx hx hxF=>(HR.l9 x hxF).2.2.2.2 hx
 have hm1g:286≤m1:=by rw[HE.o2];exact HR.o0
 have hm2g:30≤m2:=by rw[HE.o3];exact HR.o2
 have hea:=qsz 236 #[.pointer (some ⟨pp,0,none⟩),.pointer (some ⟨q6,0,none⟩),.pointer (some ⟨B,0,none⟩),.pointer (some ⟨q8,0,none⟩)] (λ_ _=>by kernel_rfl)
  (λT F' w'=>Env p pp q6 B q8 g1 g2 a1 a2 c1 c2 m1 m2 ll dl w'∧Wb w' p F' (L0++tsbits ll dl T)∧(∀x∈envB pp q6 B q8 g1 g2 a1 a2,x∉F'∧x<w'.heap.size)∧(tsbits ll dl T).length≤48*T.length) F2
  b a al cap cl r l (.slice a1 m1 c1) (.slice a2 m2 c2) told w6 rfl rfl hbr hlr H.o2 H.o3 H.o4 H.o5 H.o6 H.o7
  (λx hx=>by
   have hlw:=qta hwb6 x hx
   refine⟨hlw,λh=>?_,λh=>?_⟩
   ·rcases H2.out.2.1.new x hx with k|k
    ·exact (HR.l9 x k).2.2.2.1 h
    ·have:=HLA.o0 x h;omega
   ·rcases H2.out.2.1.new x hx with k|k
    ·exact (HR.l9 x k).2.2.2.2 h
    ·have:=HLA.l1 x h;omega)
  (λw' f=>⟨env.fr f (by simp),by simpa[tsbits] using qin hwb6 f (by simp),λx hx=>⟨(hEB x hx).1,qal (hEB x hx).2 f.size⟩,by simp[tsbits]⟩)
  (λT F' c w' hT ⟨ev,hwb,hE,hTl⟩=>by
   refine (qyv p pp q6 B q8 g1 g2 a1 a2 c1 c2 m1 m2 ll dl F' _ c w' ev hwb HR.o4 HR.o6 (by omega) (by rw[qab];have:=H.o7;omega)).mono ?_
   rintro e w2' ⟨rfl,f',F'',hb',hn'⟩
   have hk:=qj9 ll dl HR.o4 HR.o5 (.lit c) (λn d h=>by cases h)
   refine⟨rfl,f',F'',⟨ev.fr f' (λx hx=>(hE x hx).1),by rw[qg2,<-qat];exact hb',λx hx=>⟨λh=>?_,qal (hE x hx).2 f'.size⟩,by rw[qg2,qab,qab];simp only[qam,qbb];omega⟩,hn'⟩
   rcases hn' x h with k|k
   ·exact (hE x hx).1 k
   ·have:=(hE x hx).2;omega)
  (λT F' n d g o w' hT ⟨ev,hwb,hE,hTl⟩ h3 h258 h1 hd' hg e1 e2=>by
   refine (qyu p pp q6 B q8 g1 g2 g o a1 a2 c1 c2 m1 m2 ll dl F' _ n d w' ev hwb HR.o4 HR.o6 HR.o5 HR.o7 hm1g hm2g (by rw[qab];have:=H.o7;omega) hE h3 h258 h1 hd' hg e1 e2).mono ?_
   rintro e w2' ⟨rfl,f',F'',hb',hn'⟩
   have hk:=qj9 ll dl HR.o4 HR.o5 (.mat n d) (λn' d' h=>by cases h;exact⟨h3,h258,h1,hd'⟩)
   refine⟨rfl,f',F'',⟨ev.fr f' (λx hx=>(hE x hx).1),by rw[qg2,<-qat];exact hb',λx hx=>⟨λh=>?_,qal (hE x hx).2 f'.size⟩,by rw[qg2,qab,qab];simp only[qam,qbb];omega⟩,hn'⟩
   rcases hn' x h with k|k
   ·exact (hE x hx).1 k
   ·have:=(hE x hx).2;omega)
 unfold boxT at hea;rw[<-HE.o0,<-HE.o1]at hea;have y0:=cell_of hbx6 0;have y1:=cell_of hbx6 1;have y2:=cell_of hbx6 2;have y3:=cell_of hbx6 3;have y4:=cell_of hbx6 4;simp only[qae,qaa,qad]at y0 y1 y2 y3 y4;have HEA:=zhd hea;have HX:=zhd3 fw6 hL0 hL0b;clear hea hL0 hL0b hwb6 fw6 hbr hlr env hEB f46 f26 hbx6 hbp6 hs12 hs23 hs34 hs45 hs56 hsw hzB;go_upto_region 8 with (go_at_call 129;refine HEA.out.mono ?_;rintro e w7 ⟨rfl,f7,F7,⟨ev7,hwb7,hE7,hTl7⟩,hn7⟩;have H7:=zhd6 f7 ev7 hwb7 hE7 hTl7 hn7;clear f7 ev7 hwb7 hE7 hTl7 hn7);clear y0 y1 y2 y3 y4;obtain⟨f7,ev7,hwb7,hE7,hTl7,hn7⟩:=H7.out;obtain⟨ga,oa,ea,d1,d2⟩:=ev7.sym1 (show 256<m1 by omega);subst ea;have d3:=ev7.c4;have d4:=ev7.c6;have d5:=ev7.c32;have hcall:=qpr p F7 _ ll 256 w7.drew (qin hwb7 (Fr.drew1 [] w7) (by simp)) HR.o4 HR.o6 (by rw[qab];have:=qh1 b 0 l;have:=H.o7;have:=HX.l2;omega);obtain⟨x,hx⟩:=zex (codeAt ll 256);obtain⟨y,hy⟩:=zex (lenAt ll 256);rw[<-hx]at d2 hcall;rw[<-hy]at d1 hcall;have hg:decide ((m1:Int)≤256)=false:=by simp;omega
 have HC:=zhd hcall;have HF7:=zhd2 f7 hn7;clear hcall f7 ev7 hwb7 hE7 hTl7 hn7 hx hy;refine qcl 8 (by kernel_rfl) (by kernel_rfl) ?_;simp only[qai,qao,qah,qaj];repeat (go_big_quiet_step (fail))
 refine wpQuiet_nil ?_;go_wp2_with (go_at_call 237;refine HC.out.mono ?_;rintro e w8 ⟨rfl,f8,F8,hb8,hn8⟩);(try simp only[Exit.inBlock,Exit.then]);refine bodyPost_end (results_none rfl _ _ _) rfl ?_;have hfall:Fr F w w7:=HX.o0.step HF7.out.1 λy hy=>by
  rcases H2.out.2.1.new y hy with k|k
  ·exact .inl k
  ·exact .inr (qan HW.o0.size k)
 have hF7n:∀y∈F7,y∈F∨w.heap.size≤y:=λy hy=>by
  rcases HF7.out.2 y hy with k|k
  ·rcases H2.out.2.1.new y k with k2|k2
   ·exact .inl k2
   ·exact .inr (qan HW.o0.size k2)
  ·exact .inr (qan HX.o0.size k)
 refine⟨rfl,(hfall.trans ((Fr.drew1 [] w7).mono (by simp))).step f8 λy hy=>hF7n y hy,[last]++lsb 2 (if told then 2 else 1)++hd++tsbits ll dl (toks b 0 l)++sbits ll 256,⟨hd,rfl,H2.out.1.1,H2.out.1.2⟩,F8,?_,λy hy=>?_⟩
 ·rw[HX.o1]at hb8;simpa only[qat] using hb8
 ·rcases hn8 y hy with k|k
  ·exact hF7n y k
  ·exact .inr (qan hfall.size k)
def fixL (i:Nat):Nat:=if i<144 then 8 else if i<256 then 9 else if i<280 then 7 else 8
def alw (n:Nat):List Nat:=(List.range n).map fixL
theorem qj3 (n:Nat):alw (n+1)=alw n++[fixL n]:=by unfold alw;rw[qjo,qbt];rfl
theorem qfa (a b:List Nat):ints (a++b)=ints a++ints b:=by simp[ints]
theorem zdu {i:Nat} (h:i<144):fixL i=8:=by unfold fixL;rw[if_pos h]
theorem zdt {i:Nat} (h1:¬i<144) (h:i<256):fixL i=9:=by unfold fixL;rw[if_neg h1,if_pos h]
theorem zds {i:Nat} (h1:¬i<144) (h2:¬i<256) (h:i<280):fixL i=7:=by unfold fixL;rw[if_neg h1,if_neg h2,if_pos h]
theorem zdr {i:Nat} (h1:¬i<144) (h2:¬i<256) (h:¬i<280):fixL i=8:=by unfold fixL;rw[if_neg h1,if_neg h2,if_neg h]
def AlwaysGood (w:World) (e:Ending) (w':World):Prop:=
 ∃a1 c1 a2 c2,e = .returned (.tuple #[.slice a1 288 c1,.slice a2 30 c2])∧Made w w' 3 1 a1 288 c1 (ints (alw 288))∧Made w w' 3 1 a2 30 c2 (ints (List.replicate 30 5))
theorem qur (w:World):Calls Tryz.prog 81 #[] w (AlwaysGood w):=by
 go_enter Tryz.func81,Tryz.ntmps81;go_wp2;go_loopg [0,2,3,9,17] 288 (λk s0 s2 s3 s9 s17 wr=>∃(i:Nat) (ao:Option Addr) (cp:Nat),s3 = .int .i64 (i:Nat)∧s0 = .slice ao i cp∧i+k=288∧Made w wr 3 1 ao i cp (ints (alw i)));case atStart=>exact⟨0,none,0,rfl,rfl,rfl,.none w _ _⟩
 case round=>
  obtain⟨i,ao,cp,rfl,rfl,hik,hm⟩:=hrel;have HI:=zhd2 hm hik;clear hm;by_cases hi:i<288
  ·obtain⟨k,rfl⟩:∃k,gk=k+1:=⟨gk-1,by omega⟩;clear hik;by_cases h1:i<144
   ·go_wp2_with (refine qa5 qcn rfl _ _ rfl (.slice ao i cp) i (ints (alw i)) (blk ao) rfl (qbp ao i cp) (HI.o0.fr2 ((Fr.refl [] _).alloc _)).own (some ⟨wr.heap.size,0,none⟩) 1 1 [.int .i64 8] (by first|rfl|simp) (qag _) (λh=>by cases h) (qdu _ _ _ _ (qa4 _ _)) rfl (by intro u hu;simp only[qaz]at hu;rw[hu];rfl) (by omega) (by unfold maxLen;omega) ?_;intro ao2 cp2 w2 hap;have HA:=zhd ((HI.o0.fr2 ((Fr.refl [] _).alloc _)).app hap);clear hap);go_roundg k;case measure=>omega
    case rel=>refine⟨i+1,ao2,cp2,by go_num,rfl,by have:=HI.l1;omega,?_⟩;have hA3:=HA.out;rw[qj3,qfa,zdu h1];exact hA3
   ·by_cases h2:i<256
    ·have h4:¬280≤i:=by omega
     go_wp2_with (refine qa5 qcn rfl _ _ rfl (.slice ao i cp) i (ints (alw i)) (blk ao) rfl (qbp ao i cp) (HI.o0.fr2 ((Fr.refl [] _).alloc _)).own (some ⟨wr.heap.size,0,none⟩) 1 1 [.int .i64 9] (by first|rfl|simp) (qag _) (λh=>by cases h) (qdu _ _ _ _ (qa4 _ _)) rfl (by intro u hu;simp only[qaz]at hu;rw[hu];rfl) (by omega) (by unfold maxLen;omega) ?_;intro ao2 cp2 w2 hap;have HA:=zhd ((HI.o0.fr2 ((Fr.refl [] _).alloc _)).app hap);clear hap);go_roundg k;case measure=>omega
     case rel=>refine⟨i+1,ao2,cp2,by go_num,rfl,by have:=HI.l1;omega,?_⟩;have hA3:=HA.out;rw[qj3,qfa,zdt h1 h2];exact hA3
    ·by_cases h3:i<280
     ·have h4:¬280≤i:=by omega
      go_wp2_with (refine qa5 qcn rfl _ _ rfl (.slice ao i cp) i (ints (alw i)) (blk ao) rfl (qbp ao i cp) (HI.o0.fr2 ((Fr.refl [] _).alloc _)).own (some ⟨wr.heap.size,0,none⟩) 1 1 [.int .i64 7] (by first|rfl|simp) (qag _) (λh=>by cases h) (qdu _ _ _ _ (qa4 _ _)) rfl (by intro u hu;simp only[qaz]at hu;rw[hu];rfl) (by omega) (by unfold maxLen;omega) ?_;intro ao2 cp2 w2 hap;have HA:=zhd ((HI.o0.fr2 ((Fr.refl [] _).alloc _)).app hap);clear hap);go_roundg k;case measure=>omega
      case rel=>refine⟨i+1,ao2,cp2,by go_num,rfl,by have:=HI.l1;omega,?_⟩;have hA3:=HA.out;rw[qj3,qfa,zds h1 h2 h3];exact hA3
     ·have h4:280≤i:=by omega
      go_wp2_with (refine qa5 qcn rfl _ _ rfl (.slice ao i cp) i (ints (alw i)) (blk ao) rfl (qbp ao i cp) (HI.o0.fr2 ((Fr.refl [] _).alloc _)).own (some ⟨wr.heap.size,0,none⟩) 1 1 [.int .i64 8] (by first|rfl|simp) (qag _) (λh=>by cases h) (qdu _ _ _ _ (qa4 _ _)) rfl (by intro u hu;simp only[qaz]at hu;rw[hu];rfl) (by omega) (by unfold maxLen;omega) ?_;intro ao2 cp2 w2 hap;have HA:=zhd ((HI.o0.fr2 ((Fr.refl [] _).alloc _)).app hap);clear hap);go_roundg k;case measure=>omega
      case rel=>refine⟨i+1,ao2,cp2,by go_num,rfl,by have:=HI.l1;omega,?_⟩;have hA3:=HA.out;rw[qj3,qfa,zdr h1 h2 h3];exact hA3
  ·obtain rfl:i=288:=by omega
   clear hik;obtain⟨wo,rfl⟩:∃wo:World,wo=wr:=⟨_,rfl⟩;go_wp2;go_loopg [1,24] 30 (λk s1 s24 wr=>∃(j:Nat) (a2:Option Addr) (c2:Nat),s24 = .int .i64 (j:Nat)∧s1 = .slice a2 j c2∧j+k=30∧Made wo wr 3 1 a2 j c2 (ints (List.replicate j 5)));case atStart=>exact⟨0,none,0,rfl,rfl,rfl,.none wo _ _⟩
   case round=>
    obtain⟨j,a2,c2,rfl,rfl,hjk,hm⟩:=hrel;have HJ:=zhd2 hm hjk;clear hm;by_cases hj:j<30
    ·obtain⟨k,rfl⟩:∃k,gk=k+1:=⟨gk-1,by omega⟩;clear hjk;go_wp2_with (refine qa5 qcn rfl _ _ rfl (.slice a2 j c2) j (ints (List.replicate j 5)) (blk a2) rfl (qbp a2 j c2) (HJ.o0.fr2 ((Fr.refl [] _).alloc _)).own (some ⟨wr.heap.size,0,none⟩) 1 1 [.int .i64 5] (by first|rfl|simp) (qag _) (λh=>by cases h) (qdu _ _ _ _ (qa4 _ _)) rfl (by intro u hu;simp only[qaz]at hu;rw[hu];rfl) (by omega) (by unfold maxLen;omega) ?_;intro ao2 cp2 w2 hap;have HA:=zhd ((HJ.o0.fr2 ((Fr.refl [] _).alloc _)).app hap);clear hap);go_roundg k;case measure=>omega
     case rel=>refine⟨j+1,ao2,cp2,by go_num,rfl,by have:=HJ.l1;omega,?_⟩;have hA3:=HA.out;rw[qdw,qfa];exact hA3
    ·obtain rfl:j=30:=by omega
     clear hjk;go_wp2;go_ret2;exact⟨ao,cp,a2,c2,rfl,HI.o0.fr2 HJ.o0.fr,HJ.o0.pre HI.o0.fr⟩
theorem qx3 {ll dl:List Nat} {T:List Tok} {told:Bool} {b:List Bool} (h:CodedBits ll dl T true told b):0<b.length:=by obtain⟨hd,rfl,_⟩:=h;simp only[qab,qam,qbb];omega
theorem qp9 {b:List UInt8} {r:Nat} (hr:r≤32768):∀(k i:Nat) (l:List Mt),k=b.length-i→Chain b r i l→∀x∈toks b i l,∀n d,x = .mat n d→3≤n∧n≤258∧1≤d∧d≤32768:=by
 intro k;induction k using Nat.strongRecOn with
 | ind k ih=>
  intro i l hk hch x hx n d he;by_cases h:i<b.length
  ·match l,hch with
   | [],hch=>
    rw[qf6 h (λa n d t he=>by cases he)]at hx;rcases qaw.1 hx with e|e
    ·rw[e]at he;cases he
    ·exact ih (b.length-(i+1)) (by omega) (i+1) [] rfl trivial x e n d he
   | (a,n',d')::t,hch=>
    by_cases hc:a=i
    ·subst hc;have hc2:=hch;obtain⟨k1,k2,k3,k4,k5,k6,k7,_,k9⟩:=hc2;rw[qjr h (by omega)]at hx;rcases qaw.1 hx with e|e
     ·rw[e]at he;simp only[Tok.mat.injEq]at he;obtain⟨rfl,rfl⟩:=he;exact⟨k2,k3,k4,by omega⟩
     ·exact ih (b.length-(a+n')) (by omega) (a+n') t rfl k9 x e n d he
    ·have h3:=qi7 (l:=(a,n',d')::t) hch _ _ _ _ rfl hc;rw[qf6 h (λa2 n2 d2 t2 he2=>by simp only[qux,qa1]at he2;rw[<-he2.1.1];exact hc)]at hx;rcases qaw.1 hx with e|e
     ·rw[e]at he;cases he
     ·exact ih (b.length-(i+1)) (by omega) (i+1) _ rfl h3 x e n d he
  ·rw[qjs (by omega)]at hx;cases hx
theorem qlz (ll dl:List Nat) (h1:∀l∈ll,l≤15) (h2:∀l∈dl,l≤15) (T:List Tok) (hT:∀x∈T,∀n d,x = .mat n d→3≤n∧n≤258∧1≤d∧d≤32768):(tsbits ll dl T).length≤T.length*48:=
 qn2 (tbits ll dl) 48 T λx hx=>qj9 ll dl h1 h2 x (hT x hx)
theorem qm5 (q:Nat) (b:List UInt8) (a al:Option Addr) (cap cl r:Nat) (l:List Mt) (a1 a2:Option Addr) (c1 c2:Nat) (ll dl:List Nat) (told:Bool) (w:World)
  (hq:w.heap[q]?=some (.cells #[.iface 130 (.agg #[.slice a b.length cap,.slice al l.length cl,.slice a1 ll.length c1,.slice a2 dl.length c2,.bool told])] 195 (0,0)))
  (hb:Rd w a cap b) (hl:Cs w al (mcells l)) (hlc:l.length≤cl) (hln:al=none→cl=0) (hcm:cl≤maxLen) (hch:Chain b r 0 l) (hr:r≤32768) (hblen:b.length≤1000000)
  (h1:Ri w a1 c1 ll) (h2:Ri w a2 c2 dl) (n1:286≤ll.length) (n1':ll.length≤400) (n2:30≤dl.length) (n2':dl.length≤400) (nt:told=true→ll.length=286∧dl.length=30)
  (hle1:∀x∈ll,x≤15) (hle2:∀x∈dl,x≤15) (hw1:weight ll≤32768) (hw2:weight dl≤32768)
  (hla:∀x∈blk a,x<w.heap.size) (hll:∀x∈blk al,x<w.heap.size) :
  Calls Tryz.prog 82 #[.slice (some ⟨q,0,none⟩) 1 1] w λe w'=>∃bb,CodedBits ll dl (toks b 0 l) true told bb∧bb.length≤100000000∧NewBytes w (bytesOf bb) e w':=by
 obtain⟨p,hp⟩:=zex w.heap.size;obtain⟨w1,hw1'⟩:∃w1,w1=w.alloc (.cells #[.slice none 0 0,.int .u64 0,.int .i64 0] 193):=⟨_,rfl⟩;have hnew:=za1 w;rw[<-hw1',<-hp]at hnew;have f1:Fr [] w w1:=by rw[hw1'];exact (Fr.refl [] w).alloc _
 obtain⟨w2,hw2'⟩:∃w2,w2=w1.alloc (.cells #[.slice none 0 0] 187):=⟨_,rfl⟩;have f2:Fr [] w1 w2:=by rw[hw2'];exact (Fr.refl [] w1).alloc _
 have f12:=f1.trans f2;have d0:=cell_of (f1.blk hq (by simp)) 0;simp only[qae,qaa]at d0;have hcw:=qug p [p] [] b a al cap cl r l a1 a2 c1 c2 ll dl told true w2 (hb.fr f12) (hl.fr f12 (by simp)) hlc hln hcm hch hr hblen (h1.fr f12) (h2.fr f12) (qin hnew f2 (by simp)) n1 n1' n2 n2' nt hle1 hle2 hw1 hw2 (by decide)
  (λx hx=>by
   have e:x=p:=by simpa using hx
   have k1:=qma h1 (by omega) x
   have k2:=qma h2 (by omega) x
   have k3:=hla x
   have k4:=hll x
   have k5:=lt_of_block (qa4 w (.cells #[.slice none 0 0,.int .u64 0,.int .i64 0] 193))
   rw[<-hw1',<-hp]at k5
   have:=f2.size
   exact⟨by omega,λh=>by have:=k1 h;omega,λh=>by have:=k2 h;omega,λh=>by have:=k3 h;omega,λh=>by have:=k4 h;omega⟩)
  (λx hx=>qal (hla x hx) f12.size) (λx hx=>qal (hll x hx) f12.size)
 have hbits:∀bb,CodedBits ll dl (toks b 0 l) true told bb→bb.length≤100000000:=by
  rintro bb ⟨hd,rfl,hd0,hd1⟩;have k1:=qlz ll dl hle1 hle2 (toks b 0 l) (qp9 hr _ 0 l rfl hch);have k2:=qh1 b 0 l;have k3:=qdo ll hle1 256;have k4:hd.length≤20000:=by
   cases told with
   | false=>rw[hd0 rfl];exact qba _
   | true=>obtain⟨nl,nd,nc,cl2,rs,ht⟩:=hd1 rfl;exact qrs ht (nt rfl).1 (nt rfl).2
  simp only[qab,qam,qbb,lsb_length];omega
 obtain⟨BL,hBL⟩:=zex b.length;obtain⟨LL,hLL⟩:=zex l.length;obtain⟨m1,hm1⟩:=zex ll.length;obtain⟨m2,hm2⟩:=zex dl.length;rw[<-hBL,<-hLL,<-hm1,<-hm2]at d0 hcw;have hta:∀w:World,(Instr.typeAssert (.iface 130 (.agg #[.slice a BL cap,.slice al LL cl,.slice a1 m1 c1,.slice a2 m2 c2,.bool told])) 195 187 true).run Tryz.prog w = .ok (.tuple #[.agg #[.slice none 0 0],.bool false]) w:=λ_=>by kernel_rfl
 have hme:∀(f:Nat) (w:World),(method (f+1) 130 (.agg #[.slice a BL cap,.slice al LL cl,.slice a1 m1 c1,.slice a2 m2 c2,.bool told]) "stemma/deflate.write").run Tryz.prog w = .ok (233,.agg #[.slice a BL cap,.slice al LL cl,.slice a1 m1 c1,.slice a2 m2 c2,.bool told]) w:=λ_ _=>by kernel_rfl
 have H:=zhd5 hcw hbits f1 f2 hnew;have HW:=zhd3 hw1'.symm hw2'.symm hp;clear hq hb hl hlc hln hcm hch hr hblen h1 h2 n1 n1' n2 n2' nt hle1 hle2 hw1 hw2 hla hll hcw hbits f1 f2 hnew hw1' hw2' hp f12 hBL hLL hm1 hm2;go_enter Tryz.func82,Tryz.ntmps82;go_upto_block 0 with fail;rw[HW.o0,<-HW.l2];go_wp2;go_loopg [4,5,6,7,10] 1 (λk s4 s5 s6 s7 s10 wr=>∃(t:Nat) (F:List Nat) (bb:List Bool),s10 = .int .i64 (t:Nat)∧t+k=1∧(t=0→wr=w1)∧(t=1→CodedBits ll dl (toks b 0 l) true told bb∧Wb wr p F bb∧Fr [] w wr));case atStart=>exact⟨0,[],[],rfl,rfl,λ_=>rfl,λh=>absurd h (by omega)⟩
 case round=>
  obtain⟨t,F,bb,rfl,htk,h0,h1⟩:=hrel;by_cases ht:t=0
  ·subst ht;obtain rfl:=h0 rfl;obtain rfl:gk=1:=by omega
   clear h0 h1 htk;go_upto_region 8 with fail;rw[HW.o1];go_wp2_with (go_at_call 233;refine H.o0.mono ?_;rintro e w3 ⟨rfl,f3,bb,hbb,F3,hb3,hn3⟩;have H3:=zhd4 f3 hbb hb3 hn3;clear f3 hbb hb3 hn3);go_roundg 0;case measure=>omega
   case rel=>
    refine⟨1,F3,bb,rfl,rfl,λh=>absurd h (by omega),λ_=>⟨H3.o1,by simpa using H3.o2,(H.o2.trans H.o3).step H3.o0 λy hy=>.inr ?_⟩⟩;have e:y=p:=by simpa using hy
    rw[e,HW.l2];exact qag _
  ·obtain rfl:t=1:=by omega
   obtain rfl:gk=0:=by omega
   obtain⟨hbb,hW,hf⟩:=h1 rfl;have hby:=qx9 p F bb wr hW (qx3 hbb) (by have:=H.o1 bb hbb;omega);unfold NewBytes at hby;have HB:=zhd3 hby hf hbb;clear hby hW hf hbb h0 h1;go_wp2_with (go_at_call 128;refine HB.o0.mono ?_;rintro e w2' ⟨a2',rfl,r2,n2',f2'⟩);go_ret;refine⟨bb,HB.l2,H.o1 bb HB.l2,?_⟩;unfold NewBytes;exact⟨a2',rfl,r2,λx hx=>⟨qan HB.o1.size (n2' x hx).1,(n2' x hx).2⟩,HB.o1.trans f2'⟩
end Go.Proofs.YtbabjlohkniciaaGreatDoor.defl
