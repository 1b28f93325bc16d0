/-
  Texts of this proof, one behind the other: Tell, Cwrite, Always, Wcoded.
-/
import Derived.Test.YticadfhpolhkeaaGreatDoorQ9
set_option maxHeartbeats 16000000
set_option maxRecDepth 100000
set_option linter.unusedVariables false
set_option linter.unusedSimpArgs false
namespace Go.Proofs.YticadfhpolhkeaaGreatDoor
namespace defl
open Go Go.RowKit lib bm bl mat huf wb
variable {O cap cp g8 g9 i rn:Nat} {w:World} {ao:OA} {rs:List Rn} {dl ll:LN} {b:List Bool}
def fg (cl:LN) (r:Rn):List Bool:=bS cl r.1++dA r.2.2 r.2.1
structure Told (ll dl:LN) (nl nd nc:Nat) (cl:LN) (rs:List Rn) (b:List Bool):Prop where
 enl:nl=kt ll 257 ll.length
 ennd:nd=kt dl 1 dl.length
 runs:bN [] rs (ll.take nl++dl.take nd)
 clen:cl.length=19
 cle:∀l∈cl,l<=7
 full:weight cl=32768
 used:∀r∈rs,0<ae cl r.1
 nc4:4<=nc
 nc19:nc<=19
 rest:∀i,nc<=i->i<19->ae cl (ord i)=0
 bits:b=dA 5 (nl-257)++dA 5 (nd-1)++dA 4 (nc-4)++((List.range nc).flatMap λi=>dA 3 (ae cl (ord i)))++rs.flatMap (fg cl)
theorem IB:∀{rs:List Rn} {out fin:LN},bN out rs fin->∀r∈rs,r.1<=18/\r.2.1<128/\r.2.2<=7
 | [],_,_,_,r,hr=>by cases hr
 | x::rs,out,fin,h,r,hr=>by
  rcases eX.1 hr with e|e
  ·subst e;rcases h.1 with k|k|k|k<;>omega
  ·exact IB h.2 r e
def du (F:Nat->Nat):List Nat:=(List.range 19).map F
theorem KV (F:Nat->Nat) {s:Nat} (h:s<19):ae (du F) s=F s:=by simp[ae,du,h]
def rv (rs:List Rn) (s:Nat):Nat:=(rs.map (·.1)).count s
theorem Yy (rs:List Rn) (s:Nat):rv rs s<=rs.length:=by have:=JX (a:=s) (l:=rs.map (·.1));rwa [gx]at this
theorem zdl (rs:List Rn) (r:Rn) (s:Nat):rv (rs++[r]) s=if s=r.1 then rv rs s+1 else rv rs s:=by
 unfold rv;rw[jd,Df];by_cases h:s=r.1
 ·subst h;simp
 ·rw[if_neg h];simp[pM h]
theorem Tq (cs:LN) (i:Nat):(aF cs i).length<=i:=by have:=BN (λs=>decide (0<ae cs s)) (List.range i);rwa [EW]at this
theorem Lc (cs:LN) (i:Nat):(aF cs (i+1)).length=(aF cs i).length+if 0<ae cs i then 1 else 0:=by rw[Uj];split<;>simp
theorem qlu {F G:Nat->Nat} {s:Nat} (hs:s<19) (h0:F s=0) (h1:0<G s) (h:∀j,j<19->j≠s->F j=G j):∀i,i<=19->(aF (du G) i).length=(aF (du F) i).length+if s<i then 1 else 0
 | 0,_=>by simp[aF]
 | i+1,hi=>by
  have ih:=qlu hs h0 h1 h i (by omega);rw[Lc,Lc,ih,KV G (by omega),KV F (by omega)];by_cases e:i=s
  ·subst e;simp[h0,h1]
  ·have hFG:=h i (by omega) e;rw[hFG];by_cases e2:s<i
   ·have e3:s<i+1:=by omega
    simp only[e2,e3,if_true];omega
   ·have e3:¬s<i+1:=by omega
    simp only[e2,e3,if_false];omega
theorem qnr {F:Nat->Nat}:∀i,i<=19->(∀j,j<i->0<F j)->(aF (du F) i).length=i
 | 0,_,_=>by simp[aF]
 | i+1,hi,h=>by rw[Lc,qnr i (by omega) λj hj=>h j (by omega),KV F (by omega),if_pos (h i (by omega))]
theorem qlv (cs:LN):∀k i,(aF cs i).length<=(aF cs (i+k)).length
 | 0,i=>ax _
 | k+1,i=>by rw[<-pP,Lc];have:=qlv cs k i;omega
theorem qqb {w':World} {e:TypeId} {size:Nat} {len:Nat} {xs:LV} (h:aN w w' e size [] ao len cap xs):Made w w' e size ao len cap xs:=
 ⟨h.own,h.fr,λx hx=>(h.at_ x hx).elim (λk=>absurd k (by simp)) (λk=>Ex k.symm),h.le,h.max,h.nil⟩
theorem wL (f:Nat->List Bool) (hf:∀i,(f i).length=3):∀t,((List.range t).flatMap f).length=t*3
 | 0=>rfl
 | t+1=>by rw[List.range_succ,yQ,aG,wL f hf t];simp only[qd,List.flatMap_nil,nX,hf t];omega
theorem O7 {α:Type} (f:α->List Bool) (C:Nat):∀l:List α,(∀x∈l,(f x).length<=C)->(l.flatMap f).length<=l.length*C
 | [],_=>by simp
 | x::l,h=>by
  have h1:=O7 f C l λy hy=>h y (oH _ hy)
  have h2:=h x sT;simp only[qd,aG,dw,oD];omega
structure TE (O g8 g9:Nat) (ao:OA) (rn cp:Nat) (cl:LN) (rs:List Rn) (w:World):Prop where
 o:w.heap[O]?=some (.cells (oK.map λx=>Value.int .i64 (x:Nat)).toArray 541 (0,0))
 r:Ri w (some ⟨g8,0,none⟩) 19 cl
 u:WC w g9 (di cl)
 row:w.ownsRow 0 580 3 (.slice ao rn cp) rn (dn rs)
theorem TE.fr {O g8 g9:Nat} {ao:OA} {rn cp:Nat} {cl:LN} {rs:List Rn} {w w':World} {S:LN} (h:TE O g8 g9 ao rn cp cl rs w) (f:Fr S w w') (hn:∀x∈[O,g8,g9]++ag ao,x∉S):TE O g8 g9 ao rn cp cl rs w':=
 ⟨f.ag h.o (hn O (by simp)),Am h.r f (λx hx=>hn x (by simp only[jo];left;simp[ag]at hx;simp[hx])),Cs.fr h.u f (λx hx=>hn x (by simp only[jo];left;simp[ag]at hx;simp[hx])),
  dp h.row f (λk hk=>hn k (by
   simp only[jo];right
   cases ao with
   | none=>cases hk
   | some ad=>simp only[Value.ownBlock,fI]at hk;subst hk;simp[ag]))⟩
theorem TE.ord {O g8 g9:Nat} {ao:OA} {rn cp:Nat} {cl:LN} {rs:List Rn} {w:World} (h:TE O g8 g9 ao rn cp cl rs w) {i:Nat} (hi:i<19):w.cell? ⟨O,i,none⟩=some (.int .i64 (ord i:Nat)):=by
 rw[cell_of h.o];have hl:i<oK.length:=by simp[oK];omega
 simp[defl.ord,dm hl]
theorem TE.len {cl:LN} (h:TE O g8 g9 ao rn cp cl rs w) (hi:i<cl.length):w.cell? ⟨g8,i,none⟩=some (.int .i64 (ae cl i:Nat)):=by obtain⟨g,o,e,hc⟩:=h.r.at hi;simp only[fI,rB,and_true]at e;obtain⟨rfl,rfl⟩:=e;rw[iN]at hc;rw[hc,ae,dm hi];rfl
theorem TE.code {cl:LN} (h:TE O g8 g9 ao rn cp cl rs w) (hi:i<cl.length):w.cell? ⟨g9,i,none⟩=some (.int .u32 (cE cl i:Nat)):=by obtain⟨g',o',e',Bc⟩:=h.u.at (by simp[di];omega);simp only[fI,rB,and_true]at e';obtain⟨rfl,rfl⟩:=e';have:=Bc i (.int .u32 (cE cl i:Nat)) (by rw[qe,TV hi];rfl);simpa using this
theorem zc4 (p:Nat) (F:LN) (l:List Bool) (bV lV:Value) (a1 a2:OA) (c1 c2:Nat) (ll dl:LN) (told:Bool) (w:World) (jR:bV.oneCell'=true) (kD:lV.oneCell'=true)
  (h1:Ri w a1 c1 ll) (h2:Ri w a2 c2 dl) (hW:Wb w p F l) (n1:ll.length=286) (n2:dl.length=30) (iR:∀x∈ll,x<=15) (fO:∀x∈dl,x<=15) (hL:l.length<=562949953000000)
  (hF:∀x∈F,x<w.heap.size/\x∉ag a1/\x∉ag a2) :
  Calls Tryz.prog 446 #[.agg #[bV,lV,.slice a1 286 c1,.slice a2 30 c2,.bool told],.pointer (some ⟨p,0,none⟩)] w λe w'=>e = .returned (.tuple #[])/\Fr F w w'/\
   ∃nl nd nc cl rs b,Told ll dl nl nd nc cl rs b/\∃F',Wb w' p F' (l++b)/\∀y∈F',y∈F\/w.heap.size<=y:=by
 obtain⟨B,hB⟩:=ah w.heap.size;obtain⟨w1,aJ⟩:=ah (w.alloc (.cells #[bV,lV,.slice a1 286 c1,.slice a2 30 c2,.bool told] 350 (0,0)));have f1:Fr [] w w1:=by rw[aJ];exact (Fr.refl [] w).alloc _
 have iU:w1.heap[B]?=some (.cells #[bV,lV,.slice a1 286 c1,.slice a2 30 c2,.bool told] 350 (0,0)):=by rw[aJ,hB];exact aV w _
 have bR:=XH a1 c1 ll 257 w1.drew (h1.fr (f1.trans (Fr.aB [] w1))) (by omega) (by decide);have gp:=XH a2 c2 dl 1 w1.drew (h2.fr (f1.trans (Fr.aB [] w1))) (by omega) (by decide);obtain⟨nl,oW⟩:=ah (kt ll 257 ll.length);obtain⟨nd,wg⟩:=ah (kt dl 1 dl.length);rw[<-oW,n1]at bR;rw[<-wg,n2]at gp;have lO:Calls Tryz.prog 450 #[.slice a1 286 c1,.int .i64 257] w1.drew λe w'=>e = .returned (.slice a1 nl c1)/\w'=w1.drew:=bR
 have jt:Calls Tryz.prog 450 #[.slice a2 30 c2,.int .i64 1] w1.drew λe w'=>e = .returned (.slice a2 nd c2)/\w'=w1.drew:=gp
 have zaR:257<=nl:=by rw[oW];exact Kf _ _ _ (by omega)
 have zaQ:nl<=286:=by rw[oW,<-n1];exact ET _ _ _
 have zaT:1<=nd:=by rw[wg];exact Kf _ _ _ (by omega)
 have zaS:nd<=30:=by rw[wg,<-n2];exact ET _ _ _
 have e2:=cell_of iU 2;have e3:=cell_of iU 3;simp only[dJ,dk,dU]at e2 e3;have H:=pY h1 h2 hW n1 n2 iR fO hL hF;have HC:=ai lO jt;have HN:=aA oW wg f1 hB;have HW:=af aJ.symm;clear h1 h2 hW n1 n2 iR fO hL hF bR gp lO jt oW wg f1 aJ iU;go_enter Tryz.func446,Tryz.ntmps446;go_upto_region 1 with fail;rw[HW.out,<-HN.l3];clear hB;refine xY 6 (by kernel_rfl) (by kernel_rfl) ?_;simp only[lh,sW,nY,nE];iterate 3 (go_big_quiet_step (exact HC.o0 _))
 iterate 3 (go_big_quiet_step (exact HC.l1 _))
 refine wpQuiet_nil ?_;clear e2 e3;obtain⟨Z,hz,hZ,mk⟩:=Tc 19 (by decide);have UB:∀w:World,(Instr.makeSlice 348 (.int .i64 19) (.int .i64 19)).run Tryz.prog w = .ok (.slice (some ⟨w.heap.size,0,none⟩) 19 19) (w.alloc (.cells Z 3)):=mk;clear mk;have HZ:=ai hz hZ;clear hz hZ;have r1:=Ri.take (H.o0.fr (HN.o2.trans (Fr.aB [] w1))) nl;have r2:=Ri.take (H.o1.fr (HN.o2.trans (Fr.aB [] w1))) nd;have Yc:(ll.take nl).length=nl:=by rw[fH,H.o3];omega
 have Yb:(dl.take nd).length=nd:=by rw[fH,H.o4];omega
 have HT:=aA r1 r2 Yc Yb;clear r1 r2 Yc Yb;go_upto_region 2 with fail;go_upto_region 3 with (first
  | (refine fq rA rfl _ _ rfl (.slice none 0 0) 0 [] [] rfl rfl (Made.none _ _ _).own a1 nl c1 (ints (ll.take nl)) rfl (by have:=HT.o0.le;have:=HT.o2;omega) HT.o0.nil HT.o0.cs (by rw[qmu,HT.o2,uG]) (Ph _) (by omega) (by unfold maxLen;omega) ?_;intro cM fx w2 cS;rw[iN,sS]at cS;rw[iN];have HA:=af (qqb cS);clear cS)
  | (refine fq rA rfl _ _ rfl (.slice cM nl fx) nl (ints (ll.take nl)) (ag cM) rfl (cY cM nl fx) HA.out.own a2 nd c2 (ints (dl.take nd)) rfl (by have:=HT.o1.le;have:=HT.l3;omega) HT.o1.nil (HT.o1.fr HA.out.fr).cs (by rw[qmu,HT.l3,uG]) (Ph _) (by omega) (by unfold maxLen;omega) ?_;intro uh xK w3 cS;have Oo:=af (HA.out.app cS);clear cS)
  | (go_at_call 451;have od:=zdi uh xK (ll.take nl++dl.take nd) w3 (O2 (by have h3:=Oo.out;rwa [show ints (ll.take nl)++ints (dl.take nd)=ints (ll.take nl++dl.take nd) from by simp[ints]]at h3) (by rw[aG,HT.o2,HT.l3])) (by rw[aG,HT.o2,HT.l3];omega) (λx hx=>(jo.1 hx).elim (λk=>H.o5 x (sV k)) (λk=>H.o6 x (sV k)));rw[aG,HT.o2,HT.l3]at od;refine od.mono ?_;rintro e w4 ⟨N7,rn,cp4,rs,rfl,jx,hmd,iq⟩;have HR:=aq jx hmd iq;clear jx hmd iq od))
 have Oi:Hid (Fr [] w w4):=af ((HN.o2.trans (Fr.aB [] w1)).trans (Oo.out.fr.trans HR.out.2.1.fr));obtain⟨Q,hQ⟩:=ah w4.heap.size;obtain⟨w5,yX⟩:=ah (w4.alloc (.cells Z 3));have HQ:Hid (Ow w5 Q 19 (λ_=>0)/\Fr [] w4 w5):=af ⟨⟨Z,by rw[yX,hQ];exact aV w4 _,HZ.o0,HZ.l1⟩,by rw[yX];exact (Fr.refl [] w4).alloc _⟩;have Cj:rn<=400:=by have:=HR.out.2.2.len;rw[aG,HT.o2,HT.l3,<-HR.out.1]at this;simp at this;omega
 have G9:=ai hQ yX;clear hQ yX;go_upto_region 4 with fail;rw[<-G9.l1,<-G9.o0];clear UB;go_wp2;go_loopg [9,38] rn (λk s9 s38 wr=>∃t:Nat,s38 = .int .i64 (t:Nat)/\t+k=rn/\Ow wr Q 19 (rv (rs.take t))/\Fr [Q] w5 wr);case atStart=>exact⟨0,rfl,by omega,HQ.o0.congr λs _=>by simp[rv],.refl _ _⟩
 case round=>
  obtain⟨t,rfl,cI,how,hf⟩:=hrel;by_cases ht:t<rn
  ·obtain⟨k,rfl⟩:∃k,gk=k+1:=⟨gk-1,by omega⟩;obtain⟨g4,rfl,_,_⟩:=EX HR.out.2.1.own (by omega);obtain⟨r,hr⟩:∃r,rs[t]?=some r:=⟨_,dm (by rw[<-HR.out.1];exact ht)⟩;have U2:=(IB HR.out.2.2 r (j5 hr)).1;have Jp:g4≠Q:=by have:=HR.out.2.1.lt g4 (by simp[ag]);rw[G9.o0];omega
   have ec:=dp (dp HR.out.2.1.own HQ.l1 (by simp)) hf (by simpa[Value.ownBlock] using Jp);have hd:=Tj rs t r hr;obtain⟨vM,OG,OE⟩:=r;simp only at U2 hd;have d0:wr.cell? ⟨g4,t*3,none⟩=some (.int .i64 vM):=by rw[<-hd.1];exact vO ec _ (by omega)
   have d1:wr.cell? ⟨g4,t*3+1,none⟩=some (.int .u32 OG):=by rw[<-hd.2.1];exact vO ec _ (by omega)
   have d2:wr.cell? ⟨g4,t*3+2,none⟩=some (.int .i64 OE):=by rw[<-hd.2.2];exact vO ec _ (by omega)
   have fA:Fr [] wr (wr.alloc (.cells #[.int .i64 vM,.int .u32 OG,.int .i64 OE] 580 (0,0))):=(Fr.refl [] wr).alloc _;have d3:=(how.fr fA (by simp)).cell (show vM<19 by omega);have z3:=(how.fr fA (by simp)).frozen vM;obtain⟨G,hG⟩:=ah (rv (rs.take t) vM);have hGb:G<=1000:=by rw[hG];have:=Yy (rs.take t) vM;rw[fH]at this;omega
   rw[<-hG]at d3;have cW:=(how.fr fA (by simp)).set (show vM<19 by omega) (G+1);have fS:Fr [Q] w5 ((wr.alloc (.cells #[.int .i64 vM,.int .u32 OG,.int .i64 OE] 580 (0,0))).setCell ⟨Q,vM,none⟩ (.int .i64 ((G+1:Nat):Nat))):=(hf.alloc _).setCell (by simp) _;have iE:rs.take (t+1)=rs.take t++[(vM,OG,OE)]:=by rw[BJ,hr];rfl
   have HJ:=aQ cW fS hG iE cI;clear how hf hr ec hd fA cW fS hG iE cI;go_wp2;go_roundg k;case measure=>omega
   case rel=>
    obtain⟨cW,fS,hG,iE,cI⟩:=HJ.out;refine⟨t+1,by go_num,by omega,?_,fS⟩;rw[iE];refine cW.congr λs _=>?_
    rw[zdl,hG];by_cases e:s=vM
    ·rw[if_pos e,if_pos e,e]
    ·rw[if_neg e,if_neg e]
  ·obtain rfl:t=rn:=by omega
   rw[lL (by rw[<-HR.out.1];exact ax _)]at how;obtain⟨w6,yd⟩:∃w6:World,w6=wr:=⟨_,rfl⟩;rw[<-yd]at how hf ⊢;obtain⟨F0,Q0⟩:=ah (rv rs);rw[<-Q0]at how;have tV:∀s,F0 s<=400:=λs=>by rw[Q0];have:=Yy rs s;rw[<-HR.out.1]at this;omega
   have H6:=aA how hf tV Q0;clear how hf cI yd tV Q0;go_wp2;go_loopg [10,12,52] 19 (λk s10 s12 s52 wz=>∃t m:Nat,s52 = .int .i64 (t:Nat)/\s10 = .int .i64 (m:Nat)/\t+k=19/\m=(aF (du F0) t).length/\w6=wz);case atStart=>exact⟨0,0,rfl,rfl,rfl,rfl,rfl⟩
   case round=>
    obtain⟨t2,m,rfl,rfl,cI,hm,rfl⟩:=hrel;have nk:m<=t2:=by rw[hm];exact Tq _ _
    by_cases ht:t2<19
    ·obtain⟨k,rfl⟩:∃k,gk=k+1:=⟨gk-1,by omega⟩;have d3:=H6.o0.cell ht;have hb:=H6.o2 t2;obtain⟨v,hv⟩:=ah (F0 t2);rw[<-hv]at d3 hb;have UU:=Lc (du F0) t2;rw[KV F0 ht,<-hv,<-hm]at UU;have HJ:=ai UU cI;clear UU cI hm hv;by_cases AF:0<v
     ·go_wp2;go_roundg k;case measure=>omega
      case rel=>exact⟨t2+1,m+1,by go_num,by go_num,by have:=HJ.out.2;omega,by rw[HJ.out.1,if_pos AF],rfl⟩
     ·obtain rfl:v=0:=by omega
      go_wp2;go_roundg k;case measure=>omega
      case rel=>exact⟨t2+1,m,by go_num,rfl,by have:=HJ.out.2;omega,by rw[HJ.out.1];simp,rfl⟩
    ·obtain rfl:t2=19:=by omega
     have HM:=af hm;clear hm cI ht;go_wp2;go_loopg [10,13] 19 (λk s10 s13 wz=>∃(i m:Nat) (Fc:Nat->Nat),s13 = .int .i64 (i:Nat)/\s10 = .int .i64 (m:Nat)/\i+k=19/\m=(aF (du Fc) 19).length/\Ow wz Q 19 Fc/\(∀s,s<19->Fc s<=400)/\(∀s,0<F0 s->0<Fc s)/\(∀j,j<i->0<Fc j)/\Fr [Q] w6 wz);case atStart=>exact⟨0,m,F0,rfl,rfl,rfl,HM.out,H6.o0,λs _=>H6.o2 s,λ_ h=>h,λj hj=>absurd hj (by omega),.refl _ _⟩
     case round=>
      obtain⟨i,m,Fc,rfl,rfl,cQ,hm,how,tV,iQ,ct,hf⟩:=hrel;have nk:m<=19:=by rw[hm];exact Tq _ _
      by_cases jQ:m<2
      ·have xv:i<2:=by
        have h1:=qnr (F:=Fc) (min i 19) (by omega) λj hj=>ct j (by omega)
        have h2:=qlv (du Fc) (19-min i 19) (min i 19);rw[show min i 19+(19-min i 19)=19 from by omega,<-hm,h1]at h2;omega
       obtain⟨k,rfl⟩:∃k,gk=k+1:=⟨gk-1,by omega⟩;have qv:i<19:=by omega
       have d3:=how.cell qv;have z3:=how.frozen i;have hb:=tV i qv;obtain⟨v,hv⟩:=ah (Fc i);rw[<-hv]at d3 hb;by_cases AF:v=0
       ·subst AF;have cW:=how.set qv 1;have HJ:=lf cW cQ hm tV iQ ct hf hv;clear cW cQ hm tV iQ ct hf hv how;go_wp2;go_roundg k;case measure=>omega
        case rel=>
         obtain⟨cW,cQ,hm,tV,iQ,ct,hf,hv⟩:=HJ.out;refine⟨i+1,m+1,_,by go_num,by go_num,by omega,?_,cW,λs hs=>?_,λs hs=>?_,λj hj=>?_,hf.setCell (by simp) _⟩
         ·rw[qlu (F:=Fc) (s:=i) qv hv.symm (by simp) (λj _ hj=>by simp[hj]) 19 (ax _),if_pos qv,hm]
         ·split
          ·omega
          ·exact tV s hs
         ·split
          ·omega
          ·exact iQ s hs
         ·split
          ·omega
          ·exact ct j (by omega)
       ·have q:((v:Int)==0)=false:=by simp only[beq_eq_false_iff_ne];omega
        have HJ:=lf how cQ hm tV iQ ct hf hv;clear how cQ hm tV iQ ct hf hv;go_wp2;go_roundg k;case measure=>omega
        case rel=>
         obtain⟨how,cQ,hm,tV,iQ,ct,hf,hv⟩:=HJ.out;refine⟨i+1,m,Fc,by go_num,rfl,by omega,hm,how,tV,iQ,λj hj=>?_,hf⟩;rcases kT j i with k1|k1
         ·exact ct j k1
         ·rw[show j=i from by omega,<-hv];omega
      ·have tl:(du Fc).length=19:=by simp[du]
       have uU:∀c∈du Fc,c<=2^30:=λc hc=>by simp only[du,mU,uH]at hc;obtain⟨s,hs,rfl⟩:=hc;have:=tV s hs;omega
       have FD:Ri wr (some ⟨Q,0,none⟩) 19 (du Fc):=⟨how.cs,by rw[tl];exact ax _,by unfold maxLen;omega,λh=>by cases h⟩;have hlen:=KQ (some ⟨Q,0,none⟩) 19 (du Fc) 7 wr FD (by decide) (by decide) (by rw[tl];decide) uU (by rw[tl];have:=Tq (du Fc) 19;omega);rw[tl]at hlen;have zq:Calls Tryz.prog 244 #[.slice (some ⟨Q,0,none⟩) 19 19,.int .i64 7] wr (ib 7 (du Fc) 19 wr):=hlen;have HJ:=aA zq (show 2<=(aF (du Fc) (du Fc).length).length by rw[tl];omega) iQ hf;clear hlen zq FD uU hm iQ ct hf how tV cQ tl;go_upto_region 23 with (go_at_call 244;refine HJ.out.1.mono ?_;rintro e w8 ⟨g8,cl,rfl,ok8,cs8,lo8,hi8,f8⟩;have H8:=aQ ok8 cs8 lo8 hi8 f8;clear ok8 cs8 lo8 hi8 f8);have pj:cl.length=19:=by rw[H8.o0.len];simp[du]
       have qV:=H8.o0.full HJ.out.2.1;have FC:Ri w8 (some ⟨g8,0,none⟩) 19 cl:=⟨H8.o1,by rw[pj];exact ax _,by unfold maxLen;omega,λh=>by cases h⟩;have QJ:=Pu (some ⟨g8,0,none⟩) 19 cl w8 FC (λx hx=>by have:=H8.o0.le x hx;omega) (by rw[pj];decide) (by rw[qV];exact ax _);unfold gM at QJ;rw[pj]at QJ;have JJ:=aA QJ FC pj qV;clear QJ FC pj qV;go_upto_region 24 with (go_at_call 394;refine JJ.o0.mono ?_;rintro e w9 ⟨g9,rfl,u9,lo9,Vx,f9⟩;have H9:=aA u9 lo9 Vx f9;clear u9 lo9 Vx f9);go_cut [18,85] from 85 to 86 (λs18 s85 wz=>∃O:Nat,s18 = .pointer (some ⟨O,0,none⟩)/\wz.heap[O]?=some (.cells (oK.map λx=>Value.int .i64 (x:Nat)).toArray 541 (0,0))/\Fr [] w9 wz/\w9.heap.size<=O)
       case first=>
        clear H6 HJ H8 JJ H9 HR HM HQ HT HA Oo Oi G9 HC HN HW H HZ;have Vv:(Tryz.prog.info? 541).map (·.size)=some 19:=by kernel_rfl
        go_wp2_with (refine wpList_store_row rfl 541 (.tmp 18) (.tmp 85) rfl w9.heap.size #[.int .i64 16,.int .i64 17,.int .i64 18,.int .i64 0,.int .i64 8,.int .i64 7,.int .i64 9,.int .i64 6,.int .i64 10,.int .i64 5,.int .i64 11,.int .i64 4,.int .i64 12,.int .i64 3,.int .i64 13,.int .i64 2,.int .i64 14,.int .i64 1,.int .i64 15] rfl rfl 541 #[.int .i64 0,.int .i64 0,.int .i64 0,.int .i64 0,.int .i64 0,.int .i64 0,.int .i64 0,.int .i64 0,.int .i64 0,.int .i64 0,.int .i64 0,.int .i64 0,.int .i64 0,.int .i64 0,.int .i64 0,.int .i64 0,.int .i64 0,.int .i64 0,.int .i64 0] (heap_alloc_last w9 _) Vv rfl (by kernel_rfl) ?_;rw[World.setRow_alloc_new]);simp only[Act.put];go_meet;exact⟨w9.heap.size,rfl,aV w9 _,(Fr.refl [] w9).alloc _,ax _⟩
       case rest=>
       obtain⟨O,rfl,hO,f10,hO9⟩:=hcut;obtain⟨mS,LQ⟩:∃mS:World,mS=wc:=⟨_,rfl⟩;rw[<-LQ]at hO f10 ⊢;clear LQ;have pj:=JJ.o2;have Rj:Fr [Q] w4 w8:=((HQ.l1.mono (by simp)).trans (H6.o1.trans HJ.out.2.2.2)).trans (H8.l4.mono (by simp));have CL:Fr [] w8 mS:=H9.l3.trans f10;have te:TE O g8 g9 N7 t cp4 cl rs mS:=by
        refine⟨hO,JJ.o1.fr CL,Cs.fr H9.o0 f10 (by simp),dp (dp HR.out.2.1.own Rj ?_) CL (by simp)⟩;intro k hk;have hb:k∈ag N7:=by
         cases N7 with
         | none=>cases hk
         | some ad=>simp only[Value.ownBlock,fI]at hk;subst hk;simp[ag]
        have:=HR.out.2.1.lt k hb;rw[<-G9.o0]at this;simp;omega
       have GH:Fr [] w mS:=(Oi.out.step Rj (λx hx=>.inr (by simp at hx;rw[hx,G9.o0];exact Oi.out.size))).trans CL;have hEl:∀x∈[O,g8,g9]++ag N7,w.heap.size<=x/\x<mS.heap.size:=by
        intro x hx;have h8:=H8.o2;have h8':=H8.o3;have h9:=H9.o1;have h9':=H9.o2;have s10:=f10.size;have s9:=H9.l3.size;have s4:=Oi.out.size;have s8:=Rj.size;have s68:=(HJ.out.2.2.2.trans (H8.l4.mono (by simp))).size;have s46:=((HQ.l1.mono (T:=[Q]) (by simp)).trans H6.o1).size;have sw7:=HJ.out.2.2.2.size;simp only[jo,eX,mV,or_false]at hx;rcases hx with (rfl|rfl|rfl)|hx
        ·have:=lt_of_block hO;omega
        ·omega
        ·omega
        ·have h1:=HR.out.2.1.lt x hx;have h2:=HR.out.2.1.new x hx;have h3:=(((HN.o2.trans (Fr.aB [] w1)).trans Oo.out.fr)).size;omega
       have HE:=aq te GH hEl;have Bp:Hid (Told ll dl nl nd 19 cl rs (dA 5 (nl-257)++dA 5 (nd-1)++dA 4 (19-4)++((List.range 19).flatMap λi=>dA 3 (ae cl (ord i)))++rs.flatMap (fg cl))):=af (by
        refine⟨HN.o0,HN.o1,HR.out.2.2,pj,H8.o0.le,JJ.l3,λr hr=>?_,by decide,ax _,λi h1 h2=>absurd h1 (by omega),rfl⟩
        have zaM:=(IB HR.out.2.2 r hr).1
        have h0:0<F0 r.1:=by
         rw[H6.l3]
         exact List.count_pos_iff.2 (Ix hr)
        have h1:=HJ.out.2.2.1 r.1 h0
        exact H8.o0.pos r.1 (by rw[KV Fc (by omega)];exact h1))
       have HRN:Hid (t=rs.length):=af HR.out.1;have HF0:=af H.l8;have HWb:Hid (Wb mS p F l):=af (wY H.o2 GH (by simp));have JI:=af H.o7;clear te GH hEl Rj CL hO f10 hO9 H6 HJ H8 JJ H9 HR HM HQ HT HA Oo Oi G9 HC HN HW H HZ;go_wp2;go_loopg [19] 15 (λk s19 wz=>∃nc:Nat,s19 = .int .i64 (nc:Nat)/\nc=k+4/\nc<=19/\(∀i,nc<=i->i<19->ae cl (ord i)=0)/\mS=wz);case atStart=>exact⟨19,rfl,rfl,ax _,λi h1 h2=>absurd h1 (by omega),rfl⟩
       case round=>
        obtain⟨nc,rfl,FR,Mw,qM,rfl⟩:=hrel;have key:(4<nc/\ae cl (ord (nc-1))=0)\/(4<nc/\ae cl (ord (nc-1))≠0)\/nc=4:=by omega
        rcases key with⟨h4,hv⟩|oR
        ·obtain⟨q,hq⟩:=ah (nc-1);have e1:(nc:Int)-1=(q:Int):=by omega
         rw[<-hq]at hv;have d1:=HE.o0.ord (show q<19 by omega);have sx:=OP q;obtain⟨y,hy⟩:=ah (ord q);rw[<-hy]at d1 sx hv;have d2:=HE.o0.len (show y<cl.length by omega);rw[hv]at d2;have U8:q<19:=by omega
         have HJ:=aQ hq hy hv qM FR;clear hq hy hv qM FR;go_wp2;go_roundg (gk-1);case measure=>have:=HJ.out.2.2.2.2;omega
         case rel=>
          obtain⟨hq,hy,hv,qM,FR⟩:=HJ.out;refine⟨q,by go_num,by omega,by omega,λi h1 h2=>?_,rfl⟩;rcases kT i nc with k1|k1
          ·rw[show i=q from by omega,<-hy];exact hv
          ·exact qM i k1 h2
        ·have HNC:Hid (4<=nc/\∀i,nc<=i->i<19->ae cl (ord i)=0):=af ⟨by omega,qM⟩;have zaU:4<=nc:=by omega
         clear qM;have hk4:(4<nc->ae cl (ord (nc-1))≠0):=by omega
         have HST:=af hk4;clear oR hk4 FR;go_upto_region 26 with fail;go_cut [97] from 86 to 98 (λs97 wz=>s97 = .bool false/\mS=wz)
         case first=>
          by_cases h4:4<nc
          ·obtain⟨q,hq⟩:=ah (nc-1);have e1:(nc:Int)-1=(q:Int):=by omega
           have hv:=HST.out h4;rw[<-hq]at hv;have d1:=HE.o0.ord (show q<19 by omega);have sx:=OP q;obtain⟨y,hy⟩:=ah (ord q);rw[<-hy]at d1 sx hv;have d2:=HE.o0.len (show y<cl.length by omega);obtain⟨v,Cb⟩:=ah (ae cl y);rw[<-Cb]at d2 hv;have U8:q<19:=by omega
           have q1:((v:Int)==0)=false:=by simp only[beq_eq_false_iff_ne];omega
           clear hq hy Cb;go_wp2;go_meet;exact⟨rfl,rfl⟩
          ·obtain rfl:nc=4:=by omega
           go_wp2;go_meet;exact⟨rfl,rfl⟩
         case rest=>
         obtain⟨rfl,rfl⟩:=hcut;have hEF:∀x∈[O,g8,g9]++ag N7,x∉F:=λx hx xo=>by have h1:=(HE.l2 x hx).1;have h2:=(HF0.out x xo).1;omega
         have HEF:=af hEF;clear hEF;obtain⟨k1,oZ⟩:=ah (nl-257);obtain⟨k2,j3⟩:=ah (nd-1);obtain⟨k3,uY⟩:=ah (nc-4);have e1:(nl:Int)-257=(k1:Int):=by omega
         have e2:(nd:Int)-1=(k2:Int):=by omega
         have e3:(nc:Int)-4=(k3:Int):=by omega
         have b1:k1<=100:=by omega
         have b2:k2<=100:=by omega
         have b3:k3<=100:=by omega
         have HK:=aq oZ j3 uY;clear oZ j3 uY;have qt:Calls Tryz.prog 449 #[.pointer (some ⟨p,0,none⟩),.int .u32 k1,.int .i64 5] mS (cL p F mS (l++dA 5 k1)):=EK p F l k1 5 mS HWb.out (by omega) (by decide) (by have:=JI.out;omega);have HP1:=af qt;clear qt;go_upto_region 29 with (go_at_call 449;refine HP1.out.mono ?_;rintro e vJ ⟨rfl,f11,g11⟩;have yv:=af (Pg.step (Pg.start HWb.out) f11 g11);clear f11 g11);obtain⟨F11,FI⟩:=yv.out;have jk:Calls Tryz.prog 449 #[.pointer (some ⟨p,0,none⟩),.int .u32 k2,.int .i64 5] vJ (cL p F11 vJ ((l++dA 5 k1)++dA 5 k2)):=EK p F11 _ k2 5 vJ FI.wb (by omega) (by decide) (by rw[aG,ar];have:=JI.out;omega);have Bn:=af jk;have WK:=af FI;clear jk FI;go_upto_region 30 with (go_at_call 449;refine Bn.out.mono ?_;rintro e Bt ⟨rfl,f12,g12⟩;have Br:=af (Pg.step WK.out f12 g12);clear f12 g12);obtain⟨F12,FH⟩:=Br.out;have ux:Calls Tryz.prog 449 #[.pointer (some ⟨p,0,none⟩),.int .u32 k3,.int .i64 4] Bt (cL p F12 Bt (((l++dA 5 k1)++dA 5 k2)++dA 4 k3)):=EK p F12 _ k3 4 Bt FH.wb (by omega) (by decide) (by rw[aG,aG,ar,ar];have:=JI.out;omega);have WN:=af ux;have WJ:=af FH;clear ux FH;go_upto_region 31 with (go_at_call 449;refine WN.out.mono ?_;rintro e vI ⟨rfl,f13,g13⟩;have yu:=af (Pg.step WJ.out f13 g13);clear f13 g13);obtain⟨F13,FG⟩:=yu.out;obtain⟨L3,Eh⟩:=ah (((l++dA 5 k1)++dA 5 k2)++dA 4 k3);rw[<-Eh]at FG;have NB:L3.length=l.length+14:=by rw[Eh];simp only[aG,ar]
         have CQ:=aq FG Eh NB;have hsl:=qqp O nc Mw;clear FG Eh NB e1 e2 e3;go_wp2;go_loopg [21,120] nc (λk s21 s120 wz=>∃(t:Nat) (F':LN),s120 = .int .i64 (t:Nat)/\t+k=nc/\Pg p F mS (L3++(List.range t).flatMap λi=>dA 3 (ae cl (ord i))) F' wz);case atStart=>exact⟨0,F13,rfl,by omega,by simpa using CQ.o0⟩
         case round=>
          obtain⟨t2,F',rfl,cI,oU⟩:=hrel;by_cases ht:t2<nc
          ·obtain⟨k,rfl⟩:∃k,gk=k+1:=⟨gk-1,by omega⟩;have te:=HE.o0.fr oU.fr HEF.out;have d1:=te.ord (show t2<19 by omega);have sx:=OP t2;obtain⟨y,hy⟩:=ah (ord t2);rw[<-hy]at d1 sx;have d2:=te.len (show y<cl.length by omega);obtain⟨v,Cb⟩:=ah (ae cl y);have hv7:v<=7:=by rw[Cb];exact Bp.out.cle _ (Dh (by omega))
           rw[<-Cb]at d2;have DZ:((List.range t2).flatMap λi=>dA 3 (ae cl (ord i))).length=t2*3:=wL _ (λi=>ar _ _) t2;have oS:Calls Tryz.prog 449 #[.pointer (some ⟨p,0,none⟩),.int .u32 v,.int .i64 3] wr (cL p F' wr ((L3++(List.range t2).flatMap λi=>dA 3 (ae cl (ord i)))++dA 3 v)):=EK p F' _ v 3 wr oU.wb (by omega) (by decide) (by rw[aG,DZ,CQ.l2];have:=JI.out;omega);have HJ:=aQ oS oU hy Cb cI;clear oS oU hy Cb cI te DZ;go_wp2_with (go_at_call 449;refine HJ.out.1.mono ?_;rintro e Ez ⟨rfl,f14,g14⟩;have CS:=af (Pg.step HJ.out.2.1 f14 g14);clear f14 g14);go_roundg k;case measure=>omega
           case rel=>obtain⟨F14,NN⟩:=CS.out;obtain⟨_,_,hy,Cb,cI⟩:=HJ.out;refine⟨t2+1,F14,by go_num,by omega,?_⟩;rw[List.range_succ,yQ,<-fU];simp only[qd,List.flatMap_nil,nX];rw[<-hy,<-Cb];exact NN
          ·obtain rfl:t2=nc:=by omega
           obtain⟨L4,QZ⟩:=ah (L3++(List.range t2).flatMap λi=>dA 3 (ae cl (ord i)));rw[<-QZ]at oU;have NA:L4.length<=l.length+100:=by rw[QZ,aG,wL _ (λi=>ar _ _) t2,CQ.l2];omega
           have Ru:=aq oU QZ NA;clear oU QZ NA cI ht hsl;go_wp2;go_loopg [23,134] t (λk s23 s134 wz=>∃(t3:Nat) (F':LN),s134 = .int .i64 (t3:Nat)/\t3+k=t/\Pg p F mS (L4++(rs.take t3).flatMap (fg cl)) F' wz);case atStart=>exact⟨0,_,rfl,by omega,by simpa using Ru.o0⟩
           case round=>
            obtain⟨t3,F',rfl,cI,oU⟩:=hrel;by_cases ht:t3<t
            ·obtain⟨k,rfl⟩:∃k,gk=k+1:=⟨gk-1,by omega⟩;have te:=HE.o0.fr oU.fr HEF.out;obtain⟨g4,rfl,_,_⟩:=EX te.row (by omega);obtain⟨r,hr⟩:∃r,rs[t3]?=some r:=⟨_,dm (by rw[<-HRN.out];exact ht)⟩;have oQ:=IB Bp.out.runs r (j5 hr);have hd:=Tj rs t3 r hr;have iE:(rs.take (t3+1)).flatMap (fg cl)=(rs.take t3).flatMap (fg cl)++fg cl r:=by rw[BJ,hr];simp
             obtain⟨ra,rb,rc⟩:=r;simp only at oQ hd;have d0:wr.cell? ⟨g4,t3*3,none⟩=some (.int .i64 ra):=by rw[<-hd.1];exact vO te.row _ (by omega)
             have d1:wr.cell? ⟨g4,t3*3+1,none⟩=some (.int .u32 rb):=by rw[<-hd.2.1];exact vO te.row _ (by omega)
             have d2:wr.cell? ⟨g4,t3*3+2,none⟩=some (.int .i64 rc):=by rw[<-hd.2.2];exact vO te.row _ (by omega)
             obtain⟨S0,VT⟩:=ah wr.heap.size;obtain⟨W1,q9⟩:∃W1,W1=wr.alloc (.cells #[.int .i64 (ra:Nat),.int .u32 (rb:Nat),.int .i64 (rc:Nat)] 580 (0,0)):=⟨_,rfl⟩;have fA:Fr [] wr W1:=by rw[q9];exact (Fr.refl [] wr).alloc _
             have nP:W1.heap[S0]?=some (.cells #[.int .i64 ra,.int .u32 rb,.int .i64 rc] 580 (0,0)):=by rw[q9,VT];exact aV wr _
             have hSF:S0∉F':=λhx=>by have:=Hw oU.wb S0 hx;omega
             have RO:=te.fr fA (by simp);have mE:ra<cl.length:=by omega
             have x1:=RO.len mE;have x2:=RO.code mE;have y0:=cell_of nP 0;have y1:=cell_of nP 1;have y2:=cell_of nP 2;simp only[dJ,dk,dU]at y0 y1 y2;have wj:∀x∈cl,x<=15:=λx hx=>by have:=Bp.out.cle x hx;omega
             have D7:((rs.take t3).flatMap (fg cl)).length<=400*30:=by
              have hb:∀r∈rs,(fg cl r).length<=30:=λr hr=>by have h1:=yN cl wj r.1;have h2:=(IB Bp.out.runs r hr).2.2;unfold fg;rw[aG,ar];omega
              have h3:=O7 (fg cl) 30 (rs.take t3) λr hr=>hb r (sV hr)
              rw[fH]at h3;have h4:min t3 rs.length*30<=400*30:=Aw _ (by omega);omega
             have qX:=J4 p F' _ cl ra W1.drew (wY oU.wb (fA.trans (Fr.aB [] W1)) (by simp)) wj (by rw[Bp.out.full];exact ax _) (by rw[aG];have:=Ru.l2;have:=JI.out;omega);obtain⟨xc,hxc⟩:=ah (cE cl ra);obtain⟨xl,tj⟩:=ah (ae cl ra);rw[<-hxc]at x2 qX;rw[<-tj]at x1 qX;have zaB:ra<19:=by omega
             have HJ:=sM qX oU fA nP hSF iE cI oQ D7 wj;have HS:=ai VT q9;clear qX oU fA nP hSF iE cI oQ D7 wj te RO hr hd hxc tj VT q9;go_upto_region 39 with fail;rw[<-HS.l1,<-HS.o0];clear d0 d1 d2;refine xY 11 (by kernel_rfl) (by kernel_rfl) ?_;simp only[lh,sW,nY,nE];repeat (go_big_quiet_step (fail))
             refine wpQuiet_nil ?_;clear x1 x2 y0 y1 y2;go_upto_region 40 with (go_at_call 448;refine HJ.out.1.mono ?_;rintro e yz ⟨rfl,f15,g15⟩;have yt:=ai f15 (Pg.step (HJ.out.2.1.cG (HJ.out.2.2.1.trans (Fr.aB [] W1))) f15 g15);clear f15 g15);obtain⟨F15,zj⟩:=yt.out.2;have Gw:=yt.out.1.ag (w:=W1.drew) HJ.out.2.2.2.1 HJ.out.2.2.2.2.1;have y1:=cell_of Gw 1;have y2:=cell_of Gw 2;simp only[dJ,dk,dU]at y1 y2;have oS:=EK p F15 _ rb rc yz zj.wb (by have:=HJ.out.2.2.2.2.2.2.2.1;omega) (by have:=HJ.out.2.2.2.2.2.2.2.1;omega) (by rw[aG,aG];have:=Ru.l2;have:=JI.out;have:=HJ.out.2.2.2.2.2.2.2.2.1;have:=yN cl HJ.out.2.2.2.2.2.2.2.2.2 ra;omega);have Om:=ai oS zj;clear oS zj Gw;go_wp2_with (go_at_call 449;refine Om.o0.mono ?_;rintro e wU ⟨rfl,f16,g16⟩;have Hf:=af (Pg.step Om.l1 f16 g16);clear f16 g16);go_roundg k;case measure=>omega
             case rel=>obtain⟨F16,lS⟩:=Hf.out;obtain⟨_,_,_,_,_,iE,cI,_⟩:=HJ.out;refine⟨t3+1,F16,by go_num,by omega,?_⟩;rw[iE,<-fU];unfold fg;rw[<-fU];exact lS
            ·obtain rfl:t3=t:=by omega
             rw[lL (by rw[HRN.out];exact ax _)]at oU;have HJ:=af oU;clear oU cI;go_wp2;(try simp only[Exit.inBlock,Exit.then]);refine bodyPost_end (results_none rfl _ _ _) rfl ?_;have hq:=HJ.out;refine⟨rfl,(HE.o1.mono (by simp)).trans hq.fr,nl,nd,t2,cl,rs,_,{ Bp.out with nc4:=HNC.o0,nc19:=Mw,rest:=HNC.l1,bits:=rfl },_,?_,λy hy=>(hq.new y hy).imp id λk=>bP HE.o1.size k⟩;have h3:=hq.wb;rw[Ru.o1,CQ.o1]at h3;rw[<-HK.o0,<-HK.o1,<-HK.l2];simpa only[fU] using h3
theorem Il {a:OA} {xs:LN} (h:Ri w a cap xs) (hn:0<xs.length):∀x∈ag a,x<w.heap.size:=by intro x hx;obtain⟨g,o,rfl,_⟩:=h.at hn;have:=h.cs.lt (by intro e;have:=congrArg List.length e;rw[gx]at this;simp at this;rw[this]at hn;simp at hn) ⟨g,o,none⟩ rfl;simp[ag]at hx;rw[hx];exact this
def eV (ll dl:LN) (T:List Tok) (last told:Bool) (b:List Bool):Prop:=
 ∃hd,b=[last]++dA 2 (if told then 2 else 1)++hd++bw ll dl T++bS ll 256/\(told=false->hd=[])/\(told=true->∃nl nd nc cl rs,Told ll dl nl nd nc cl rs hd)
theorem Zw {nl nd nc:Nat} {cl:LN} (h:Told ll dl nl nd nc cl rs b) (h1:ll.length=286) (h2:dl.length=30):b.length<=20000:=by
 have hr:=h.runs.len;rw[aG,fH,fH]at hr;have hle:∀x∈cl,x<=15:=λx hx=>by have:=h.cle x hx;omega
 have h3:=O7 (fg cl) 30 rs λr hr=>by have k1:=yN cl hle r.1;have k2:=(IB h.runs r hr).2.2;unfold fg;rw[aG,ar];omega
 have mD:rs.length<=316:=by simp at hr;omega
 have h4:rs.length*30<=316*30:=Aw _ mD;have h5:=h.nc19;rw[h.bits];simp only[aG,ar,wL _ (λi=>ar _ _)];omega
theorem qx1 (p:Nat) (F:LN) (l0:List Bool) (b:LB) (a al:OA) (cap cl r:Nat) (l:List Mt) (a1 a2:OA) (c1 c2:Nat) (ll dl:LN) (told last:Bool) (w:World)
  (hb:Rd w a cap b) (hl:Cs w al (bJ l)) (nn:l.length<=cl) (nL:al=none->cl=0) (kE:cl<=maxLen) (cj:cH b r 0 l) (hr:r<=32768) (gX:b.length<=1000000)
  (h1:Ri w a1 c1 ll) (h2:Ri w a2 c2 dl) (hW:Wb w p F l0) (n1:286<=ll.length) (Fb:ll.length<=400) (n2:30<=dl.length) (AA:dl.length<=400) (nt:told=true->ll.length=286/\dl.length=30)
  (iR:∀x∈ll,x<=15) (fO:∀x∈dl,x<=15) (aJ:weight ll<=32768) (cC:weight dl<=32768) (hL:l0.length<=1000000000)
  (hF:∀x∈F,x<w.heap.size/\x∉ag a1/\x∉ag a2/\x∉ag a/\x∉ag al) (eh:∀x∈ag a,x<w.heap.size) (sA:∀x∈ag al,x<w.heap.size) :
  Calls Tryz.prog 444 #[.agg #[.slice a b.length cap,.slice al l.length cl,.slice a1 ll.length c1,.slice a2 dl.length c2,.bool told],.pointer (some ⟨p,0,none⟩),.bool last] w λe w'=>
   e = .returned (.tuple #[])/\Fr F w w'/\∃bb,eV ll dl (br b 0 l) last told bb/\∃F',Wb w' p F' (l0++bb)/\∀y∈F',y∈F\/w.heap.size<=y:=by
 obtain⟨B,hB⟩:=ah w.heap.size;obtain⟨BL,lQ⟩:=ah b.length;obtain⟨LL,nA⟩:=ah l.length;obtain⟨m1,j7⟩:=ah ll.length;obtain⟨m2,jQ⟩:=ah dl.length;rw[<-lQ,<-nA,<-j7,<-jQ];obtain⟨w1,nK⟩:∃w1,w1=(w.alloc (.cells #[.slice a BL cap,.slice al LL cl,.slice a1 m1 c1,.slice a2 m2 c2,.bool told] 350 (0,0))).alloc (.cells #[.pointer (some ⟨p,0,none⟩)] 417 (0,0)):=⟨_,rfl⟩;have f1:Fr [] w w1:=by rw[nK];exact ((Fr.refl [] w).alloc _).alloc _
 have iU:w1.heap[B]?=some (.cells #[.slice a BL cap,.slice al LL cl,.slice a1 m1 c1,.slice a2 m2 c2,.bool told] 350 (0,0)):=by rw[nK,hB];exact alloc_old _ (aV w _)
 have Gn:w1.heap[B+1]?=some (.cells #[.pointer (some ⟨p,0,none⟩)] 417 (0,0)):=by rw[nK,hB];have:=aV (w.alloc (.cells #[.slice a BL cap,.slice al LL cl,.slice a1 m1 c1,.slice a2 m2 c2,.bool told] 350 (0,0))) (.cells #[.pointer (some ⟨p,0,none⟩)] 417 (0,0));rwa [ik]at this
 have qN:w1.heap.size=B+2:=by rw[nK,ik,ik,<-hB]
 have q9:Wb w1 p F l0:=wY hW f1 (by simp);have Jz:B∉F/\B+1∉F:=⟨λh=>by have:=(hF B h).1;omega,λh=>by have:=(hF (B+1) h).1;omega⟩;have H:=sL hb hl nn nL kE cj hr gX h1 h2 nt;have HR:=sM n1 Fb n2 AA iR fO aJ cC hL hF;have HE:=aQ lQ nA j7 jQ hB;have HW:=cU f1 iU Gn qN q9 Jz;have Oh:=af nK.symm;have HLA:=ai eh sA;clear eh sA;have e4:=cell_of iU 4;have d0:=cell_of Gn 0;simp only[dJ,dk,dU]at e4 d0;clear hb hl nn nL kE cj hr gX h1 h2 nt n1 Fb n2 AA iR fO aJ cC hL hF lQ nA j7 jQ f1 iU Gn qN q9 Jz nK hW;go_enter Tryz.func444,Tryz.ntmps444;go_upto_region 1 with fail;rw[Oh.out,<-HE.l4];clear hB;go_upto_if 11 with fail;obtain⟨pp,ki⟩:=ah (B+1);rw[<-ki]at d0 ⊢;have WL:=af ki;clear ki;go_cut [] from 11 to 21 (λwz=>∃hd F',((told=false->hd=[])/\(told=true->∃nl nd nc cl rs,Told ll dl nl nd nc cl rs hd))/\Pg p F w1 (l0++([last]++dA 2 (if told then 2 else 1))++hd) F' wz)
 case first=>
  cases told with
  | false=>
   have hh:Calls Tryz.prog 445 #[.pointer (some ⟨p,0,none⟩),.bool last,.int .u32 1] w1 (cL p F w1 (l0++last::dA 2 1)):=SF p F l0 last 1 w1 HW.o4 (by decide) (by have:=HR.o8;omega);have HH:=af hh;clear hh;go_wp2_with (go_at_call 445;refine HH.out.mono ?_;rintro e w2 ⟨rfl,f2,g2⟩;have H2:=af (Pg.step (Pg.start HW.o4) f2 g2);clear f2 g2);go_meet;obtain⟨F2,h2⟩:=H2.out;exact⟨[],F2,⟨λ_=>rfl,(λh=>by cases h)⟩,by simpa using h2⟩
  | true=>
   have hh:Calls Tryz.prog 445 #[.pointer (some ⟨p,0,none⟩),.bool last,.int .u32 2] w1 (cL p F w1 (l0++last::dA 2 2)):=SF p F l0 last 2 w1 HW.o4 (by decide) (by have:=HR.o8;omega);have HH:=af hh;have Jf:=H.l10 rfl;have MH:m1=286:=by rw[HE.o2];exact Jf.1
   have Vk:m2=30:=by rw[HE.o3];exact Jf.2
   subst MH;subst Vk;clear hh Jf;go_upto_region 3 with (go_at_call 445;refine HH.out.mono ?_;rintro e w2 ⟨rfl,f2,g2⟩;have H2:=af (Pg.step (Pg.start HW.o4) f2 g2);clear f2 g2);obtain⟨F2,jk⟩:=H2.out;have mv:=jk.fr.ag HW.o1 HW.l5.1;have zD:=jk.fr.ag HW.o2 HW.l5.2;rw[<-WL.out]at zD;have y0:=cell_of mv 0;have y1:=cell_of mv 1;have y2:=cell_of mv 2;have y3:=cell_of mv 3;have y4:=cell_of mv 4;have y5:=cell_of zD 0;simp only[dJ,dk,dU]at y0 y1 y2 y3 y4 y5;have ft:Fr F w w2:=(HW.o0.mono (by simp)).trans jk.fr;have DM:=zc4 p F2 _ (.slice a BL cap) (.slice al LL cl) a1 a2 c1 c2 ll dl true w2 rfl rfl
    (Am H.o8 ft (λx hx xo=>(HR.l9 x xo).2.1 hx)) (Am H.o9 ft (λx hx xo=>(HR.l9 x xo).2.2.1 hx)) jk.wb HE.o2.symm HE.o3.symm HR.o4 HR.o5
    (by rw[aG,dw,ar];have:=HR.o8;omega)
    (λx hx=>by
     refine⟨Hw jk.wb x hx,λh=>?_,λh=>?_⟩
     ·rcases jk.new x hx with k|k
      ·exact (HR.l9 x k).2.1 h
      ·have h3:=Il H.o8 (by have:=HR.o0;omega) x h
       have:=HW.o0.size
       omega
     ·rcases jk.new x hx with k|k
      ·exact (HR.l9 x k).2.2.1 h
      ·have h3:=Il H.o9 (by have:=HR.o2;omega) x h
       have:=HW.o0.size
       omega)
   have HT:=af DM;have Bn:=af jk;clear DM jk mv zD ft;go_wp2_with (go_at_call 446;refine HT.out.mono ?_;rintro e w3 ⟨rfl,f3,nl,nd,nc,JC,rs,bt,ht,g3⟩;have H3:=ai (show ∃nl nd nc cl rs,Told ll dl nl nd nc cl rs bt from ⟨nl,nd,nc,JC,rs,ht⟩) (Pg.step Bn.out f3 g3);clear f3 g3 ht);go_meet;obtain⟨F3,h3⟩:=H3.out.2;exact⟨bt,F3,⟨(λh=>by cases h),λ_=>H3.out.1⟩,by simpa using h3⟩
 case rest=>
 obtain⟨hd,F2,pb,oU⟩:=hcut;obtain⟨w2,cC⟩:∃w2:World,w2=wc:=⟨_,rfl⟩;rw[<-cC]at oU ⊢;clear cC e4 d0;have og:hd.length<=20000:=by
  cases told with
  | false=>rw[pb.1 rfl];exact eE _
  | true=>obtain⟨nl,nd,nc,JC,rs,ht⟩:=pb.2 rfl;have Jf:=H.l10 rfl;exact Zw ht Jf.1 Jf.2
 have ft:Fr F w w2:=(HW.o0.mono (by simp)).trans oU.fr;have mv:=oU.fr.ag HW.o1 HW.l5.1;have zD:=oU.fr.ag HW.o2 HW.l5.2;rw[<-WL.out]at zD;have Bv:=Am H.o8 ft (λx hx xo=>(HR.l9 x xo).2.1 hx);have CW:=Am H.o9 ft (λx hx xo=>(HR.l9 x xo).2.2.1 hx);have bR:=Pu a1 c1 ll w2 Bv HR.o4 HR.o1 HR.o6;unfold gM at bR;rw[<-HE.o2]at bR;have y2:=cell_of mv 2;simp only[dJ,dk,dU]at y2;have H2:=lf pb oU og ft mv zD Bv CW;have HC1:=af bR;clear pb oU og ft mv zD Bv CW bR;go_upto_region 6 with (go_at_call 394;refine HC1.out.mono ?_;rintro e w3 ⟨g1,rfl,u3,lo3,hi3,f3⟩;have H3:=aA u3 lo3 hi3 f3;clear u3 lo3 hi3 f3);clear y2;obtain⟨q6,Qp⟩:=ah w3.heap.size;obtain⟨w4,jO⟩:=ah (w3.alloc (.cells #[.slice (some ⟨g1,0,none⟩) m1 m1] 545 (0,0)));have yh:w4.heap[q6]?=some (.cells #[.slice (some ⟨g1,0,none⟩) m1 m1] 545 (0,0)):=by rw[jO,Qp];exact aV w3 _
 have f4:Fr [] w3 w4:=by rw[jO];exact (Fr.refl [] w3).alloc _
 rw[<-jO,<-Qp];have H4:=aA yh f4 Qp jO;clear yh f4 Qp jO;have f24:Fr [] w2 w4:=H3.out.2.2.2.trans H4.o1;have gp:=Pu a2 c2 dl w4 (H2.out.2.2.2.2.2.2.2.fr f24) HR.o5 HR.o3 HR.o7;unfold gM at gp;rw[<-HE.o3]at gp;have y3:=cell_of (f24.ag H2.out.2.2.2.2.1 (by simp)) 3;simp only[dJ,dk,dU]at y3;have Ev:=ai gp f24;clear gp f24;go_upto_region 7 with (go_at_call 394;refine Ev.o0.mono ?_;rintro e w5 ⟨g2,rfl,u5,lo5,Vy,f5⟩;have H5:=aA u5 lo5 Vy f5;clear u5 lo5 Vy f5);clear y3;obtain⟨q8,Mi⟩:=ah w5.heap.size;obtain⟨w6,yd⟩:=ah (w5.alloc (.cells #[.slice (some ⟨g2,0,none⟩) m2 m2] 545 (0,0)));have Gu:w6.heap[q8]?=some (.cells #[.slice (some ⟨g2,0,none⟩) m2 m2] 545 (0,0)):=by rw[yd,Mi];exact aV w5 _
 have f6:Fr [] w5 w6:=by rw[yd];exact (Fr.refl [] w5).alloc _
 rw[<-yd,<-Mi];have H6:=aA Gu f6 Mi yd;clear Gu f6 Mi yd;have f46:Fr [] w4 w6:=H5.l3.trans H6.o1;have f26:Fr [] w2 w6:=Ev.l1.trans f46;have rM:=f26.ag H2.out.2.2.2.2.1 (by simp);have Gr:=f26.ag H2.out.2.2.2.2.2.1 (by simp);have env:Env p pp q6 B q8 g1 g2 a1 a2 c1 c2 m1 m2 ll dl w6:=by have k0:=cell_of Gr 0;have k2:=cell_of rM 2;have k3:=cell_of rM 3;have k6:=cell_of (f46.ag H4.o0 (by simp)) 0;have k8:=cell_of H6.o0 0;simp only[dJ,dk,dU]at k0 k2 k3 k6 k8;exact⟨k0,k6,k2,k3,k8,Cs.fr H3.out.1 (H4.o1.trans f46) (by simp),Cs.fr H5.o0 H6.o1 (by simp),H2.out.2.2.2.2.2.2.1.fr f26,H2.out.2.2.2.2.2.2.2.fr f26,HE.o2,HE.o3⟩
 have U3:=H2.out.2.1.fr.size;have U0:=H3.out.2.2.2.size;have UZ:=H4.o1.size;have UY:=H5.l3.size;have UX:=H6.o1.size;have Ce:=HW.o0.size;have hzB:=HW.o3;have V2:∀x∈tY pp q6 B q8 g1 g2 a1 a2,x∉F2/\x<w6.heap.size:=by
  intro x hx;have hn:=H2.out.2.1.new x;have Gy:=Il H.o8 (by have:=HR.o0;omega) x;have Ju:=Il H.o9 (by have:=HR.o2;omega) x;have Ji:x∈F2->x<w2.heap.size:=Hw H2.out.2.1.wb x;have k3:=H3.out.2.1;have k3':=H3.out.2.2.1;have k5:=H5.o1;have k5':=H5.o2;have kq6:=H4.o2;have kq8:=H6.o2;have kpp:=WL.out;have l6:=lt_of_block H4.o0;have l8:=lt_of_block H6.o0;have lB:=lt_of_block rM;have lp:=lt_of_block Gr;simp only[tY,jo,eX,mV,or_false]at hx;rcases hx with ((rfl|rfl|rfl|rfl|rfl|rfl)|hx)|hx
  ·refine⟨λh=>?_,by omega⟩;rcases hn h with k|k
   ·rw[kpp]at k;exact HW.l5.2 k
   ·omega
  ·exact⟨λh=>by have:=Ji h;omega,by omega⟩
  ·refine⟨λh=>?_,by omega⟩;rcases hn h with k|k
   ·exact HW.l5.1 k
   ·omega
  ·exact⟨λh=>by have:=Ji h;omega,by omega⟩
  ·exact⟨λh=>by have:=Ji h;omega,by omega⟩
  ·exact⟨λh=>by have:=Ji h;omega,by omega⟩
  ·have:=Gy hx;refine⟨λh=>?_,by omega⟩;rcases hn h with k|k
   ·exact (HR.l9 x k).2.1 hx
   ·omega
  ·have:=Ju hx;refine⟨λh=>?_,by omega⟩;rcases hn h with k|k
   ·exact (HR.l9 x k).2.2.1 hx
   ·omega
 obtain⟨L0,yp⟩:=ah (l0++([last]++dA 2 (if told then 2 else 1))++hd);have NF:L0.length<=1000100000:=by rw[yp];simp only[aG,ar,dw,jK];have:=HR.o8;have:=H2.out.2.2.1;omega
 have Fq:Wb w6 p F2 L0:=by rw[yp];exact wY H2.out.2.1.wb f26 (by simp)
 have El:Fr F w w6:=H2.out.2.2.2.1.trans (f26.mono (by simp));have Gq:Rd w6 a cap b:=H.o0.uD El λx hx xo=>(HR.l9 x xo).2.2.2.1 hx
 have AX:Cs w6 al (bJ l):=H.o1.fr El λx hx xo=>(HR.l9 x xo).2.2.2.2 hx
 have Vn:286<=m1:=by rw[HE.o2];exact HR.o0
 have Vl:30<=m2:=by rw[HE.o3];exact HR.o2
 have Cx:=Zl 447 #[.pointer (some ⟨pp,0,none⟩),.pointer (some ⟨q6,0,none⟩),.pointer (some ⟨B,0,none⟩),.pointer (some ⟨q8,0,none⟩)] (λ_ _=>by kernel_rfl)
  (λT F' w'=>Env p pp q6 B q8 g1 g2 a1 a2 c1 c2 m1 m2 ll dl w'/\Wb w' p F' (L0++bw ll dl T)/\(∀x∈tY pp q6 B q8 g1 g2 a1 a2,x∉F'/\x<w'.heap.size)/\(bw ll dl T).length<=48*T.length) F2
  b a al cap cl r l (.slice a1 m1 c1) (.slice a2 m2 c2) told w6 rfl rfl Gq AX H.o2 H.o3 H.o4 H.o5 H.o6 H.o7
  (λx hx=>by
   have Ji:=Hw Fq x hx
   refine⟨Ji,λh=>?_,λh=>?_⟩
   ·rcases H2.out.2.1.new x hx with k|k
    ·exact (HR.l9 x k).2.2.2.1 h
    ·have:=HLA.o0 x h;omega
   ·rcases H2.out.2.1.new x hx with k|k
    ·exact (HR.l9 x k).2.2.2.2 h
    ·have:=HLA.l1 x h;omega)
  (λw' f=>⟨env.fr f (by simp),by simpa[bw] using wY Fq f (by simp),λx hx=>⟨(V2 x hx).1,fM (V2 x hx).2 f.size⟩,by simp[bw]⟩)
  (λT F' c w' hT ⟨ev,ey,hE,uB⟩=>by
   refine (zcu p pp q6 B q8 g1 g2 a1 a2 c1 c2 m1 m2 ll dl F' _ c w' ev ey HR.o4 HR.o6 (by omega) (by rw[aG];have:=H.o7;omega)).mono ?_
   rintro e JN ⟨rfl,f',WW,q7,xu⟩
   have hk:=Tt ll dl HR.o4 HR.o5 (.lit c) (λn d h=>by cases h)
   refine⟨rfl,f',WW,⟨ev.fr f' (λx hx=>(hE x hx).1),by rw[PR,<-fU];exact q7,λx hx=>⟨λh=>?_,fM (hE x hx).2 f'.size⟩,by rw[PR,aG,aG];simp only[dw,jK];omega⟩,xu⟩
   rcases xu x h with k|k
   ·exact (hE x hx).1 k
   ·have:=(hE x hx).2;omega)
  (λT F' n d g o w' hT ⟨ev,ey,hE,uB⟩ h3 iB h1 Nc hg e1 e2=>by
   refine (zct p pp q6 B q8 g1 g2 g o a1 a2 c1 c2 m1 m2 ll dl F' _ n d w' ev ey HR.o4 HR.o6 HR.o5 HR.o7 Vn Vl (by rw[aG];have:=H.o7;omega) hE h3 iB h1 Nc hg e1 e2).mono ?_
   rintro e JN ⟨rfl,f',WW,q7,xu⟩
   have hk:=Tt ll dl HR.o4 HR.o5 (.mat n d) (λn' d' h=>by cases h;exact⟨h3,iB,h1,Nc⟩)
   refine⟨rfl,f',WW,⟨ev.fr f' (λx hx=>(hE x hx).1),by rw[PR,<-fU];exact q7,λx hx=>⟨λh=>?_,fM (hE x hx).2 f'.size⟩,by rw[PR,aG,aG];simp only[dw,jK];omega⟩,xu⟩
   rcases xu x h with k|k
   ·exact (hE x hx).1 k
   ·have:=(hE x hx).2;omega)
 unfold vw at Cx;rw[<-HE.o0,<-HE.o1]at Cx;have y0:=cell_of rM 0;have y1:=cell_of rM 1;have y2:=cell_of rM 2;have y3:=cell_of rM 3;have y4:=cell_of rM 4;simp only[dJ,dk,dU]at y0 y1 y2 y3 y4;have HEA:=af Cx;have HX:=aq El yp NF;clear Cx yp NF Fq El Gq AX env V2 f46 f26 rM Gr U3 U0 UZ UY UX Ce hzB;go_upto_region 8 with (go_at_call 291;refine HEA.out.mono ?_;rintro e w7 ⟨rfl,f7,F7,⟨Em,yW,Q6,CG⟩,Mv⟩;have H7:=cU f7 Em yW Q6 CG Mv;clear f7 Em yW Q6 CG Mv);clear y0 y1 y2 y3 y4;obtain⟨f7,Em,yW,Q6,CG,Mv⟩:=H7.out;obtain⟨ga,oa,ea,d1,d2⟩:=Em.EE (show 256<m1 by omega);subst ea;have d3:=Em.c4;have d4:=Em.c6;have d5:=Em.c32;have cF:=J4 p F7 _ ll 256 w7.drew (wY yW (Fr.aB [] w7) (by simp)) HR.o4 HR.o6 (by rw[aG];have:=Kt b 0 l;have:=H.o7;have:=HX.l2;omega);obtain⟨x,hx⟩:=ah (cE ll 256);obtain⟨y,hy⟩:=ah (ae ll 256);rw[<-hx]at d2 cF;rw[<-hy]at d1 cF;have hg:decide ((m1:Int)<=256)=false:=by simp;omega
 have HC:=af cF;have HF7:=ai f7 Mv;clear cF f7 Em yW Q6 CG Mv hx hy;refine xY 8 (by kernel_rfl) (by kernel_rfl) ?_;simp only[lh,sW,nY,nE];repeat (go_big_quiet_step (fail))
 refine wpQuiet_nil ?_;go_wp2_with (go_at_call 448;refine HC.out.mono ?_;rintro e w8 ⟨rfl,f8,F8,vk,kM⟩);(try simp only[Exit.inBlock,Exit.then]);refine bodyPost_end (results_none rfl _ _ _) rfl ?_;have D9:Fr F w w7:=HX.o0.step HF7.out.1 λy hy=>by
  rcases H2.out.2.1.new y hy with k|k
  ·exact .inl k
  ·exact .inr (bP HW.o0.size k)
 have NG:∀y∈F7,y∈F\/w.heap.size<=y:=λy hy=>by
  rcases HF7.out.2 y hy with k|k
  ·rcases H2.out.2.1.new y k with k2|k2
   ·exact .inl k2
   ·exact .inr (bP HW.o0.size k2)
  ·exact .inr (bP HX.o0.size k)
 refine⟨rfl,(D9.trans ((Fr.aB [] w7).mono (by simp))).step f8 λy hy=>NG y hy,[last]++dA 2 (if told then 2 else 1)++hd++bw ll dl (br b 0 l)++bS ll 256,⟨hd,rfl,H2.out.1.1,H2.out.1.2⟩,F8,?_,λy hy=>?_⟩
 ·rw[HX.o1]at vk;simpa only[fU] using vk
 ·rcases kM y hy with k|k
  ·exact NG y k
  ·exact .inr (bP D9.size k)
def po (i:Nat):Nat:=if i<144 then 8 else if i<256 then 9 else if i<280 then 7 else 8
def oh (n:Nat):List Nat:=(List.range n).map po
theorem Pb (n:Nat):oh (n+1)=oh n++[po n]:=by unfold oh;rw[List.range_succ,jd];rfl
theorem KP (a b:LN):ints (a++b)=ints a++ints b:=by simp[ints]
theorem zi8 (h:i<144):po i=8:=by unfold po;rw[if_pos h]
theorem zi7 (h1:¬i<144) (h:i<256):po i=9:=by unfold po;rw[if_neg h1,if_pos h]
theorem zi6 (h1:¬i<144) (h2:¬i<256) (h:i<280):po i=7:=by unfold po;rw[if_neg h1,if_neg h2,if_pos h]
theorem zi5 (h1:¬i<144) (h2:¬i<256) (h:¬i<280):po i=8:=by unfold po;rw[if_neg h1,if_neg h2,if_neg h]
def pL (w:World) (e:Ending) (w':World):Prop:=
 ∃a1 c1 a2 c2,e = .returned (.tuple #[.slice a1 288 c1,.slice a2 30 c2])/\Made w w' 3 1 a1 288 c1 (ints (oh 288))/\Made w w' 3 1 a2 30 c2 (ints (List.replicate 30 5))
theorem qyd (w:World):Calls Tryz.prog 241 #[] w (pL w):=by
 go_enter Tryz.func241,Tryz.ntmps241;go_wp2;go_loopg [0,2,3,9,17] 288 (λk s0 s2 s3 s9 s17 wr=>∃(i:Nat) (ao:OA) (cp:Nat),s3 = .int .i64 (i:Nat)/\s0 = .slice ao i cp/\i+k=288/\Made w wr 3 1 ao i cp (ints (oh i)));case atStart=>exact⟨0,none,0,rfl,rfl,rfl,.none w _ _⟩
 case round=>
  obtain⟨i,ao,cp,rfl,rfl,cQ,hm⟩:=hrel;have HI:=ai hm cQ;clear hm;by_cases hi:i<288
  ·obtain⟨k,rfl⟩:∃k,gk=k+1:=⟨gk-1,by omega⟩;clear cQ;by_cases h1:i<144
   ·go_wp2_with (refine fq rA rfl _ _ rfl (.slice ao i cp) i (ints (oh i)) (ag ao) rfl (cY ao i cp) (HI.o0.ft ((Fr.refl [] _).alloc _)).own (some ⟨wr.heap.size,0,none⟩) 1 1 [.int .i64 8] (by first|rfl|simp) (ax _) (λh=>by cases h) (nD _ _ _ _ (aV _ _)) rfl (by intro u hu;simp only[eF]at hu;rw[hu];rfl) (by omega) (by unfold maxLen;omega) ?_;intro cM fx w2 cS;have HA:=af ((HI.o0.ft ((Fr.refl [] _).alloc _)).app cS);clear cS);go_roundg k;case measure=>omega
    case rel=>refine⟨i+1,cM,fx,by go_num,rfl,by have:=HI.l1;omega,?_⟩;have CI:=HA.out;rw[Pb,KP,zi8 h1];exact CI
   ·by_cases h2:i<256
    ·have h4:¬280<=i:=by omega
     go_wp2_with (refine fq rA rfl _ _ rfl (.slice ao i cp) i (ints (oh i)) (ag ao) rfl (cY ao i cp) (HI.o0.ft ((Fr.refl [] _).alloc _)).own (some ⟨wr.heap.size,0,none⟩) 1 1 [.int .i64 9] (by first|rfl|simp) (ax _) (λh=>by cases h) (nD _ _ _ _ (aV _ _)) rfl (by intro u hu;simp only[eF]at hu;rw[hu];rfl) (by omega) (by unfold maxLen;omega) ?_;intro cM fx w2 cS;have HA:=af ((HI.o0.ft ((Fr.refl [] _).alloc _)).app cS);clear cS);go_roundg k;case measure=>omega
     case rel=>refine⟨i+1,cM,fx,by go_num,rfl,by have:=HI.l1;omega,?_⟩;have CI:=HA.out;rw[Pb,KP,zi7 h1 h2];exact CI
    ·by_cases h3:i<280
     ·have h4:¬280<=i:=by omega
      go_wp2_with (refine fq rA rfl _ _ rfl (.slice ao i cp) i (ints (oh i)) (ag ao) rfl (cY ao i cp) (HI.o0.ft ((Fr.refl [] _).alloc _)).own (some ⟨wr.heap.size,0,none⟩) 1 1 [.int .i64 7] (by first|rfl|simp) (ax _) (λh=>by cases h) (nD _ _ _ _ (aV _ _)) rfl (by intro u hu;simp only[eF]at hu;rw[hu];rfl) (by omega) (by unfold maxLen;omega) ?_;intro cM fx w2 cS;have HA:=af ((HI.o0.ft ((Fr.refl [] _).alloc _)).app cS);clear cS);go_roundg k;case measure=>omega
      case rel=>refine⟨i+1,cM,fx,by go_num,rfl,by have:=HI.l1;omega,?_⟩;have CI:=HA.out;rw[Pb,KP,zi6 h1 h2 h3];exact CI
     ·have h4:280<=i:=by omega
      go_wp2_with (refine fq rA rfl _ _ rfl (.slice ao i cp) i (ints (oh i)) (ag ao) rfl (cY ao i cp) (HI.o0.ft ((Fr.refl [] _).alloc _)).own (some ⟨wr.heap.size,0,none⟩) 1 1 [.int .i64 8] (by first|rfl|simp) (ax _) (λh=>by cases h) (nD _ _ _ _ (aV _ _)) rfl (by intro u hu;simp only[eF]at hu;rw[hu];rfl) (by omega) (by unfold maxLen;omega) ?_;intro cM fx w2 cS;have HA:=af ((HI.o0.ft ((Fr.refl [] _).alloc _)).app cS);clear cS);go_roundg k;case measure=>omega
      case rel=>refine⟨i+1,cM,fx,by go_num,rfl,by have:=HI.l1;omega,?_⟩;have CI:=HA.out;rw[Pb,KP,zi5 h1 h2 h3];exact CI
  ·obtain rfl:i=288:=by omega
   clear cQ;obtain⟨wo,rfl⟩:∃wo:World,wo=wr:=⟨_,rfl⟩;go_wp2;go_loopg [1,24] 30 (λk s1 s24 wr=>∃(j:Nat) (a2:OA) (c2:Nat),s24 = .int .i64 (j:Nat)/\s1 = .slice a2 j c2/\j+k=30/\Made wo wr 3 1 a2 j c2 (ints (List.replicate j 5)));case atStart=>exact⟨0,none,0,rfl,rfl,rfl,.none wo _ _⟩
   case round=>
    obtain⟨j,a2,c2,rfl,rfl,fP,hm⟩:=hrel;have HJ:=ai hm fP;clear hm;by_cases hj:j<30
    ·obtain⟨k,rfl⟩:∃k,gk=k+1:=⟨gk-1,by omega⟩;clear fP;go_wp2_with (refine fq rA rfl _ _ rfl (.slice a2 j c2) j (ints (List.replicate j 5)) (ag a2) rfl (cY a2 j c2) (HJ.o0.ft ((Fr.refl [] _).alloc _)).own (some ⟨wr.heap.size,0,none⟩) 1 1 [.int .i64 5] (by first|rfl|simp) (ax _) (λh=>by cases h) (nD _ _ _ _ (aV _ _)) rfl (by intro u hu;simp only[eF]at hu;rw[hu];rfl) (by omega) (by unfold maxLen;omega) ?_;intro cM fx w2 cS;have HA:=af ((HJ.o0.ft ((Fr.refl [] _).alloc _)).app cS);clear cS);go_roundg k;case measure=>omega
     case rel=>refine⟨j+1,cM,fx,by go_num,rfl,by have:=HJ.l1;omega,?_⟩;have CI:=HA.out;rw[IA,KP];exact CI
    ·obtain rfl:j=30:=by omega
     clear fP;go_wp2;go_ret2;exact⟨ao,cp,a2,c2,rfl,HI.o0.ft HJ.o0.fr,HJ.o0.pre HI.o0.fr⟩
theorem zbx {T:List Tok} {told:Bool} (h:eV ll dl T true told b):0<b.length:=by obtain⟨hd,rfl,_⟩:=h;simp only[aG,dw,jK];omega
theorem Sz {b:LB} {r:Nat} (hr:r<=32768):∀(k i:Nat) (l:List Mt),k=b.length-i->cH b r i l->∀x∈br b i l,∀n d,x = .mat n d->3<=n/\n<=258/\1<=d/\d<=32768:=by
 intro k;induction k using Nat.strongRecOn with
 | ind k ih=>
  intro i l hk cj x hx n d he;by_cases h:i<b.length
  ·match l,cj with
   | [],cj=>
    rw[EY h (λa n d t he=>by cases he)]at hx;rcases eX.1 hx with e|e
    ·rw[e]at he;cases he
    ·exact ih (b.length-(i+1)) (by omega) (i+1) [] rfl trivial x e n d he
   | (a,n',d')::t,cj=>
    by_cases hc:a=i
    ·subst hc;have gp:=cj;obtain⟨k1,k2,k3,k4,k5,k6,k7,_,k9⟩:=gp;rw[Pr h (by omega)]at hx;rcases eX.1 hx with e|e
     ·rw[e]at he;simp only[Tok.mat.injEq]at he;obtain⟨rfl,rfl⟩:=he;exact⟨k2,k3,k4,by omega⟩
     ·exact ih (b.length-(a+n')) (by omega) (a+n') t rfl k9 x e n d he
    ·have h3:=TF (l:=(a,n',d')::t) cj _ _ _ _ rfl hc;rw[EY h (λa2 n2 d2 t2 xB=>by simp only[Ht,gq]at xB;rw[<-xB.1.1];exact hc)]at hx;rcases eX.1 hx with e|e
     ·rw[e]at he;cases he
     ·exact ih (b.length-(i+1)) (by omega) (i+1) _ rfl h3 x e n d he
  ·rw[Pq (by omega)]at hx;cases hx
theorem qnq (ll dl:LN) (h1:∀l∈ll,l<=15) (h2:∀l∈dl,l<=15) (T:List Tok) (hT:∀x∈T,∀n d,x = .mat n d->3<=n/\n<=258/\1<=d/\d<=32768):(bw ll dl T).length<=T.length*48:=
 O7 (gw ll dl) 48 T λx hx=>Tt ll dl h1 h2 x (hT x hx)
theorem qoy (q:Nat) (b:LB) (a al:OA) (cap cl r:Nat) (l:List Mt) (a1 a2:OA) (c1 c2:Nat) (ll dl:LN) (told:Bool) (w:World)
  (hq:w.heap[q]?=some (.cells #[.iface 350 (.agg #[.slice a b.length cap,.slice al l.length cl,.slice a1 ll.length c1,.slice a2 dl.length c2,.bool told])] 414 (0,0)))
  (hb:Rd w a cap b) (hl:Cs w al (bJ l)) (nn:l.length<=cl) (nL:al=none->cl=0) (kE:cl<=maxLen) (cj:cH b r 0 l) (hr:r<=32768) (gX:b.length<=1000000)
  (h1:Ri w a1 c1 ll) (h2:Ri w a2 c2 dl) (n1:286<=ll.length) (Fb:ll.length<=400) (n2:30<=dl.length) (AA:dl.length<=400) (nt:told=true->ll.length=286/\dl.length=30)
  (iR:∀x∈ll,x<=15) (fO:∀x∈dl,x<=15) (aJ:weight ll<=32768) (cC:weight dl<=32768)
  (eh:∀x∈ag a,x<w.heap.size) (sA:∀x∈ag al,x<w.heap.size) :
  Calls Tryz.prog 242 #[.slice (some ⟨q,0,none⟩) 1 1] w λe w'=>∃bb,eV ll dl (br b 0 l) true told bb/\bb.length<=100000000/\aZ w (bytesOf bb) e w':=by
 obtain⟨p,hp⟩:=ah w.heap.size;obtain⟨w1,nK⟩:∃w1,w1=w.alloc (.cells #[.slice none 0 0,.int .u64 0,.int .i64 0] 412):=⟨_,rfl⟩;have bZ:=Xo w;rw[<-nK,<-hp]at bZ;have f1:Fr [] w w1:=by rw[nK];exact (Fr.refl [] w).alloc _
 obtain⟨w2,Fu⟩:∃w2,w2=w1.alloc (.cells #[.slice none 0 0] 405):=⟨_,rfl⟩;have f2:Fr [] w1 w2:=by rw[Fu];exact (Fr.refl [] w1).alloc _
 have f12:=f1.trans f2;have d0:=cell_of (f1.ag hq (by simp)) 0;simp only[dJ,dk]at d0;have zv:=qx1 p [p] [] b a al cap cl r l a1 a2 c1 c2 ll dl told true w2 (hb.fr f12) (hl.fr f12 (by simp)) nn nL kE cj hr gX (h1.fr f12) (h2.fr f12) (wY bZ f2 (by simp)) n1 Fb n2 AA nt iR fO aJ cC (by decide)
  (λx hx=>by
   have e:x=p:=by simpa using hx
   have k1:=Il h1 (by omega) x
   have k2:=Il h2 (by omega) x
   have k3:=eh x
   have k4:=sA x
   have k5:=lt_of_block (aV w (.cells #[.slice none 0 0,.int .u64 0,.int .i64 0] 412))
   rw[<-nK,<-hp]at k5
   have:=f2.size
   exact⟨by omega,λh=>by have:=k1 h;omega,λh=>by have:=k2 h;omega,λh=>by have:=k3 h;omega,λh=>by have:=k4 h;omega⟩)
  (λx hx=>fM (eh x hx) f12.size) (λx hx=>fM (sA x hx) f12.size)
 have Ed:∀bb,eV ll dl (br b 0 l) true told bb->bb.length<=100000000:=by
  rintro bb ⟨hd,rfl,Gk,lO⟩;have k1:=qnq ll dl iR fO (br b 0 l) (Sz hr _ 0 l rfl cj);have k2:=Kt b 0 l;have k3:=yN ll iR 256;have k4:hd.length<=20000:=by
   cases told with
   | false=>rw[Gk rfl];exact eE _
   | true=>obtain⟨nl,nd,nc,JC,rs,ht⟩:=lO rfl;exact Zw ht (nt rfl).1 (nt rfl).2
  simp only[aG,dw,jK,ar];omega
 obtain⟨BL,lQ⟩:=ah b.length;obtain⟨LL,nA⟩:=ah l.length;obtain⟨m1,j7⟩:=ah ll.length;obtain⟨m2,jQ⟩:=ah dl.length;rw[<-lQ,<-nA,<-j7,<-jQ]at d0 zv;have uv:∀w:World,(Instr.typeAssert (.iface 350 (.agg #[.slice a BL cap,.slice al LL cl,.slice a1 m1 c1,.slice a2 m2 c2,.bool told])) 414 405 true).run Tryz.prog w = .ok (.tuple #[.agg #[.slice none 0 0],.bool false]) w:=λ_=>by kernel_rfl
 have zp:∀(f:Nat) (w:World),(method (f+1) 350 (.agg #[.slice a BL cap,.slice al LL cl,.slice a1 m1 c1,.slice a2 m2 c2,.bool told]) "stemma/deflate.write").run Tryz.prog w = .ok (444,.agg #[.slice a BL cap,.slice al LL cl,.slice a1 m1 c1,.slice a2 m2 c2,.bool told]) w:=λ_ _=>by kernel_rfl
 have H:=aQ zv Ed f1 f2 bZ;have HW:=aq nK.symm Fu.symm hp;clear hq hb hl nn nL kE cj hr gX h1 h2 n1 Fb n2 AA nt iR fO aJ cC eh sA zv Ed f1 f2 bZ nK Fu hp f12 lQ nA j7 jQ;go_enter Tryz.func242,Tryz.ntmps242;go_upto_block 0 with fail;rw[HW.o0,<-HW.l2];go_wp2;go_loopg [4,5,6,7,10] 1 (λk s4 s5 s6 s7 s10 wr=>∃(t:Nat) (F:LN) (bb:List Bool),s10 = .int .i64 (t:Nat)/\t+k=1/\(t=0->wr=w1)/\(t=1->eV ll dl (br b 0 l) true told bb/\Wb wr p F bb/\Fr [] w wr));case atStart=>exact⟨0,[],[],rfl,rfl,λ_=>rfl,λh=>absurd h (by omega)⟩
 case round=>
  obtain⟨t,F,bb,rfl,cI,h0,h1⟩:=hrel;by_cases ht:t=0
  ·subst ht;obtain rfl:=h0 rfl;obtain rfl:gk=1:=by omega
   clear h0 h1 cI;go_upto_region 8 with fail;rw[HW.o1];go_wp2_with (go_at_call 444;refine H.o0.mono ?_;rintro e w3 ⟨rfl,f3,bb,wu,F3,uA,xt⟩;have H3:=aA f3 wu uA xt;clear f3 wu uA xt);go_roundg 0;case measure=>omega
   case rel=>
    refine⟨1,F3,bb,rfl,rfl,λh=>absurd h (by omega),λ_=>⟨H3.o1,by simpa using H3.o2,(H.o2.trans H.o3).step H3.o0 λy hy=>.inr ?_⟩⟩;have e:y=p:=by simpa using hy
    rw[e,HW.l2];exact ax _
  ·obtain rfl:t=1:=by omega
   obtain rfl:gk=0:=by omega
   obtain⟨wu,hW,hf⟩:=h1 rfl;have mr:=XM p F bb wr hW (zbx wu) (by have:=H.o1 bb wu;omega);unfold aZ at mr;have HB:=aq mr hf wu;clear mr hW hf wu h0 h1;go_wp2_with (go_at_call 290;refine HB.o0.mono ?_;rintro e JN ⟨a2',rfl,r2,AA,f2'⟩);go_ret;refine⟨bb,HB.l2,H.o1 bb HB.l2,?_⟩;unfold aZ;exact⟨a2',rfl,r2,λx hx=>⟨bP HB.o1.size (AA x hx).1,(AA x hx).2⟩,HB.o1.trans f2'⟩
end defl

end Go.Proofs.YticadfhpolhkeaaGreatDoor