/-
  Texts of this proof, one behind the other: Tell, Cwrite, Always, Wcoded.
-/
import Derived.Test.YtkmpfgpfbmeihaaGreatDoorQ11
set_option maxHeartbeats 16000000
set_option maxRecDepth 100000
set_option linter.unusedVariables false
set_option linter.unusedSimpArgs false
namespace Go.Proofs.YtkmpfgpfbmeihaaGreatDoor
namespace defl
open Go Go.RowKit lib bm bl mat huf wb
def fC (cl:LN) (r:Rn):List Bool:=cq cl r.1++dM r.2.2 r.2.1
structure Told (ll dl:LN) (nl nd nc:Nat) (cl:LN) (rs:List Rn) (b:List Bool):Prop where
 enl:nl=kV ll 257 ll.length
 ennd:nd=kV dl 1 dl.length
 runs:bT [] rs (ll.take nl++dl.take nd)
 clen:cl.length=19
 cle:∀l∈cl,l<=7
 full:weight cl=32768
 used:∀r∈rs,0<ae cl r.1
 nc4:4<=nc
 nc19:nc<=19
 rest:∀i,nc<=i->i<19->ae cl (ord i)=0
 bits:b=dM 5 (nl-257)++dM 5 (nd-1)++dM 4 (nc-4)++((List.range nc).flatMap λi=>dM 3 (ae cl (ord i)))++rs.flatMap (fC cl)
theorem Lj:∀{rs:List Rn} {out fin:LN},bT out rs fin->∀r∈rs,r.1<=18/\r.2.1<128/\r.2.2<=7
 | [],_,_,_,r,hr=>by cases hr
 | x::rs,out,fin,h,r,hr=>by
  rcases fP.1 hr with e|e
  ·subst e;rcases h.1 with k|k|k|k<;>omega
  ·exact Lj h.2 r e
def dF (F:Nat->Nat):List Nat:=(List.range 19).map F
theorem NT (F:Nat->Nat) {s:Nat} (h:s<19):ae (dF F) s=F s:=by simp[ae,dF,h]
def sX (rs:List Rn) (s:Nat):Nat:=(rs.map (·.1)).count s
theorem qyp (rs:List Rn) (s:Nat):sX rs s<=rs.length:=by have:=MY (a:=s) (l:=rs.map (·.1));rwa [bW]at this
theorem zcq (rs:List Rn) (r:Rn) (s:Nat):sX (rs++[r]) s=if s=r.1 then sX rs s+1 else sX rs s:=by
 unfold sX;rw[gF,FF];by_cases h:s=r.1
 ·subst h;simp
 ·rw[if_neg h];simp[kC h]
theorem WD (cs:LN) (i:Nat):(aJ cs i).length<=i:=by have:=FY (λs=>decide (0<ae cs s)) (List.range i);rwa [Da]at this
theorem NV (cs:LN) (i:Nat):(aJ cs (i+1)).length=(aJ cs i).length+if 0<ae cs i then 1 else 0:=by rw[Xp];split<;>simp
theorem qmq {F G:Nat->Nat} {s:Nat} (hs:s<19) (h0:F s=0) (h1:0<G s) (h:∀j,j<19->j≠s->F j=G j):∀i,i<=19->(aJ (dF G) i).length=(aJ (dF F) i).length+if s<i then 1 else 0
 | 0,_=>by simp[aJ]
 | i+1,hi=>by
  have ih:=qmq hs h0 h1 h i (by omega);rw[NV,NV,ih,NT G (by omega),NT F (by omega)];by_cases e:i=s
  ·subst e;simp[h0,h1]
  ·have JY:=h i (by omega) e;rw[JY];by_cases e2:s<i
   ·have e3:s<i+1:=by omega
    simp only[e2,e3,if_true];omega
   ·have e3:¬s<i+1:=by omega
    simp only[e2,e3,if_false];omega
theorem qoo {F:Nat->Nat}:∀i,i<=19->(∀j,j<i->0<F j)->(aJ (dF F) i).length=i
 | 0,_,_=>by simp[aJ]
 | i+1,hi,h=>by rw[NV,qoo i (by omega) λj hj=>h j (by omega),NT F (by omega),if_pos (h i (by omega))]
theorem qmr (cs:LN):∀k i,(aJ cs i).length<=(aJ cs (i+k)).length
 | 0,i=>ay _
 | k+1,i=>by rw[<-oW,NV];have:=qmr cs k i;omega
theorem qqs {w w':World} {e:TypeId} {size:Nat} {ao:OA} {len cap:Nat} {xs:LV} (h:aV w w' e size [] ao len cap xs):Made w w' e size ao len cap xs:=
 ⟨h.own,h.fr,λx hx=>(h.at_ x hx).elim (λk=>absurd k (by simp)) (λk=>Nat.le_of_eq k.symm),h.le,h.max,h.nil⟩
theorem yQ (f:Nat->List Bool) (hf:∀i,(f i).length=3):∀t,((List.range t).flatMap f).length=t*3
 | 0=>rfl
 | t+1=>by rw[List.range_succ,Bm,aA,yQ f hf t];simp only[vX,List.flatMap_nil,mW,hf t];omega
theorem RZ {α:Type} (f:α->List Bool) (C:Nat):∀l:List α,(∀x∈l,(f x).length<=C)->(l.flatMap f).length<=l.length*C
 | [],_=>by simp
 | x::l,h=>by
  have h1:=RZ f C l λy hy=>h y (tu _ hy)
  have h2:=h x uJ;simp only[vX,aA,bU,oV];omega
structure TE (O g8 g9:Nat) (ao:OA) (rn cp:Nat) (cl:LN) (rs:List Rn) (w:World):Prop where
 o:w.heap[O]?=some (.cells (qv.map λx=>Value.int .i64 (x:Nat)).toArray 287 (0,0))
 r:Ri w (some ⟨g8,0,none⟩) 19 cl
 u:U32 w g9 (du cl)
 row:w.ownsRow 0 344 3 (.slice ao rn cp) rn (dw rs)
theorem TE.fr {O g8 g9:Nat} {ao:OA} {rn cp:Nat} {cl:LN} {rs:List Rn} {w w':World} {S:LN} (h:TE O g8 g9 ao rn cp cl rs w) (f:Fr S w w') (hn:∀x∈[O,g8,g9]++af ao,x∉S):TE O g8 g9 ao rn cp cl rs w':=
 ⟨f.af h.o (hn O (by simp)),CZ h.r f (λx hx=>hn x (by simp only[jw];left;simp[af]at hx;simp[hx])),Cs.fr h.u f (λx hx=>hn x (by simp only[jw];left;simp[af]at hx;simp[hx])),
  dr h.row f (λk hk=>hn k (by
   simp only[jw];right
   cases ao with
   | none=>cases hk
   | some ad=>simp only[Value.ownBlock,eJ]at hk;subst hk;simp[af]))⟩
theorem TE.ord {O g8 g9:Nat} {ao:OA} {rn cp:Nat} {cl:LN} {rs:List Rn} {w:World} (h:TE O g8 g9 ao rn cp cl rs w) {i:Nat} (hi:i<19):w.cell? ⟨O,i,none⟩=some (.int .i64 (ord i:Nat)):=by
 rw[cell_of h.o];have hl:i<qv.length:=by simp[qv];omega
 simp[defl.ord,br hl]
theorem TE.len {O g8 g9:Nat} {ao:OA} {rn cp:Nat} {cl:LN} {rs:List Rn} {w:World} (h:TE O g8 g9 ao rn cp cl rs w) {i:Nat} (hi:i<cl.length):w.cell? ⟨g8,i,none⟩=some (.int .i64 (ae cl i:Nat)):=by obtain⟨g,o,e,hc⟩:=h.r.at hi;simp only[eJ,ru,and_true]at e;obtain⟨rfl,rfl⟩:=e;rw[ft]at hc;rw[hc,ae,br hi];rfl
theorem TE.code {O g8 g9:Nat} {ao:OA} {rn cp:Nat} {cl:LN} {rs:List Rn} {w:World} (h:TE O g8 g9 ao rn cp cl rs w) {i:Nat} (hi:i<cl.length):w.cell? ⟨g9,i,none⟩=some (.int .u32 (cN cl i:Nat)):=by obtain⟨g',o',e',yG⟩:=h.u.at (by simp[du];omega);simp only[eJ,ru,and_true]at e';obtain⟨rfl,rfl⟩:=e';have:=yG i (.int .u32 (cN cl i:Nat)) (by rw[iM,WY hi];rfl);simpa using this
theorem zb7 (p:Nat) (F:LN) (l:List Bool) (bV lV:Value) (a1 a2:OA) (c1 c2:Nat) (ll dl:LN) (told:Bool) (w:World) (fM:bV.oneCell'=true) (hH:lV.oneCell'=true)
  (h1:Ri w a1 c1 ll) (h2:Ri w a2 c2 dl) (hW:Wb w p F l) (n1:ll.length=286) (n2:dl.length=30) (je:∀x∈ll,x<=15) (jd:∀x∈dl,x<=15) (hL:l.length<=562949953000000)
  (hF:∀x∈F,x<w.heap.size/\x∉af a1/\x∉af a2) :
  Calls Tryz.prog 244 #[.agg #[bV,lV,.slice a1 286 c1,.slice a2 30 c2,.bool told],.pointer (some ⟨p,0,none⟩)] w λe w'=>e = .returned (.tuple #[])/\Fr F w w'/\
   ∃nl nd nc cl rs b,Told ll dl nl nd nc cl rs b/\∃F',Wb w' p F' (l++b)/\∀y∈F',y∈F\/w.heap.size<=y:=by
 obtain⟨B,hB⟩:=ai w.heap.size;obtain⟨w1,cP⟩:=ai (w.alloc (.cells #[bV,lV,.slice a1 286 c1,.slice a2 30 c2,.bool told] 197 (0,0)));have f1:Fr [] w w1:=by rw[cP];exact (Fr.refl [] w).alloc _
 have iI:w1.heap[B]?=some (.cells #[bV,lV,.slice a1 286 c1,.slice a2 30 c2,.bool told] 197 (0,0)):=by rw[cP,hB];exact bC w _
 have cY:=zas a1 c1 ll 257 w1.drew (h1.fr (f1.trans (Fr.av [] w1))) (by omega) (by decide);have jD:=zas a2 c2 dl 1 w1.drew (h2.fr (f1.trans (Fr.av [] w1))) (by omega) (by decide);obtain⟨nl,tH⟩:=ai (kV ll 257 ll.length);obtain⟨nd,ED⟩:=ai (kV dl 1 dl.length);rw[<-tH,n1]at cY;rw[<-ED,n2]at jD;have og:Calls Tryz.prog 248 #[.slice a1 286 c1,.int .i64 257] w1.drew λe w'=>e = .returned (.slice a1 nl c1)/\w'=w1.drew:=cY
 have fZ:Calls Tryz.prog 248 #[.slice a2 30 c2,.int .i64 1] w1.drew λe w'=>e = .returned (.slice a2 nd c2)/\w'=w1.drew:=jD
 have zbK:257<=nl:=by rw[tH];exact Nj _ _ _ (by omega)
 have zbJ:nl<=286:=by rw[tH,<-n1];exact Ig _ _ _
 have zbM:1<=nd:=by rw[ED];exact Nj _ _ _ (by omega)
 have zbL:nd<=30:=by rw[ED,<-n2];exact Ig _ _ _
 have e2:=cell_of iI 2;have e3:=cell_of iI 3;simp only[bF,aT,bP]at e2 e3;have H:=oU h1 h2 hW n1 n2 je jd hL hF;have HC:=ak og fZ;have HN:=aG tH ED f1 hB;have HW:=ah cP.symm;clear h1 h2 hW n1 n2 je jd hL hF cY jD og fZ tH ED f1 cP iI;go_enter Tryz.func244,Tryz.ntmps244;go_upto_region 1 with fail;rw[HW.out,<-HN.l3];clear hB;refine uO 6 (by kernel_rfl) (by kernel_rfl) ?_;simp only[uF];iterate 3 (go_big_quiet_step (exact HC.o0 _))
 iterate 3 (go_big_quiet_step (exact HC.l1 _))
 refine wpQuiet_nil ?_;clear e2 e3;obtain⟨Z,hz,hZ,mk⟩:=Wm 19 (by decide);have XM:∀w:World,(Instr.makeSlice 28 (.int .i64 19) (.int .i64 19)).run Tryz.prog w = .ok (.slice (some ⟨w.heap.size,0,none⟩) 19 19) (w.alloc (.cells Z 3)):=mk;clear mk;have HZ:=ak hz hZ;clear hz hZ;have r1:=Ri.take (H.o0.fr (HN.o2.trans (Fr.av [] w1))) nl;have r2:=Ri.take (H.o1.fr (HN.o2.trans (Fr.av [] w1))) nd;have tl1:(ll.take nl).length=nl:=by rw[dU,H.o3];omega
 have tl2:(dl.take nd).length=nd:=by rw[dU,H.o4];omega
 have HT:=aG r1 r2 tl1 tl2;clear r1 r2 tl1 tl2;go_upto_region 2 with fail;go_upto_region 3 with (first
  | (refine gM pG rfl _ _ rfl (.slice none 0 0) 0 [] [] rfl rfl (Made.none _ _ _).own a1 nl c1 (ints (ll.take nl)) rfl (by have:=HT.o0.le;have:=HT.o2;omega) HT.o0.nil HT.o0.cs (by rw[NL,HT.o2,pI]) (Sf _) (by omega) (by unfold maxLen;omega) ?_;intro dv gg w2 bN;rw[ft,qj]at bN;rw[ft];have HA:=ah (qqs bN);clear bN)
  | (refine gM pG rfl _ _ rfl (.slice dv nl gg) nl (ints (ll.take nl)) (af dv) rfl (dD dv nl gg) HA.out.own a2 nd c2 (ints (dl.take nd)) rfl (by have:=HT.o1.le;have:=HT.l3;omega) HT.o1.nil (HT.o1.fr HA.out.fr).cs (by rw[NL,HT.l3,pI]) (Sf _) (by omega) (by unfold maxLen;omega) ?_;intro vO zV w3 bN;have Rx:=ah (HA.out.app bN);clear bN)
  | (go_at_call 249;have ku:=zcl vO zV (ll.take nl++dl.take nd) w3 (R3 (by have h3:=Rx.out;rwa [show ints (ll.take nl)++ints (dl.take nd)=ints (ll.take nl++dl.take nd) from by simp[ints]]at h3) (by rw[aA,HT.o2,HT.l3])) (by rw[aA,HT.o2,HT.l3];omega) (λx hx=>(jw.1 hx).elim (λk=>H.o5 x (uM k)) (λk=>H.o6 x (uM k)));rw[aA,HT.o2,HT.l3]at ku;refine ku.mono ?_;rintro e w4 ⟨Q9,rn,cp4,rs,rfl,jS,EG,jb⟩;have HR:=aw jS EG jb;clear jS EG jb ku))
 have Rp:Hid (Fr [] w w4):=ah ((HN.o2.trans (Fr.av [] w1)).trans (Rx.out.fr.trans HR.out.2.1.fr));obtain⟨Q,hQ⟩:=ai w4.heap.size;obtain⟨w5,pg⟩:=ai (w4.alloc (.cells Z 3));have HQ:Hid (Ow w5 Q 19 (λ_=>0)/\Fr [] w4 w5):=ah ⟨⟨Z,by rw[pg,hQ];exact bC w4 _,HZ.o0,HZ.l1⟩,by rw[pg];exact (Fr.refl [] w4).alloc _⟩;have Ex:rn<=400:=by have:=HR.out.2.2.len;rw[aA,HT.o2,HT.l3,<-HR.out.1]at this;simp at this;omega
 have Ks:=ak hQ pg;clear hQ pg;go_upto_region 4 with fail;rw[<-Ks.l1,<-Ks.o0];clear XM;go_wp2;go_loopg [9,38] rn (λk s9 s38 wr=>∃t:Nat,s38 = .int .i64 (t:Nat)/\t+k=rn/\Ow wr Q 19 (sX (rs.take t))/\Fr [Q] w5 wr);case atStart=>exact⟨0,rfl,by omega,HQ.o0.congr λs _=>by simp[sX],.refl _ _⟩
 case round=>
  obtain⟨t,rfl,cH,how,hf⟩:=hrel;by_cases ht:t<rn
  ·obtain⟨k,rfl⟩:∃k,gk=k+1:=⟨gk-1,by omega⟩;obtain⟨g4,rfl,_,_⟩:=Io HR.out.2.1.own (by omega);obtain⟨r,hr⟩:∃r,rs[t]?=some r:=⟨_,br (by rw[<-HR.out.1];exact ht)⟩;have Yo:=(Lj HR.out.2.2 r (gB hr)).1;have Mg:g4≠Q:=by have:=HR.out.2.1.lt g4 (by simp[af]);rw[Ks.o0];omega
   have eF:=dr (dr HR.out.2.1.own HQ.l1 (by simp)) hf (by simpa[Value.ownBlock] using Mg);have hd:=Wu rs t r hr;obtain⟨vS,KI,RC⟩:=r;simp only at Yo hd;have d0:wr.cell? ⟨g4,t*3,none⟩=some (.int .i64 vS):=by rw[<-hd.1];exact yb eF _ (by omega)
   have d1:wr.cell? ⟨g4,t*3+1,none⟩=some (.int .u32 KI):=by rw[<-hd.2.1];exact yb eF _ (by omega)
   have d2:wr.cell? ⟨g4,t*3+2,none⟩=some (.int .i64 RC):=by rw[<-hd.2.2];exact yb eF _ (by omega)
   have fA:Fr [] wr (wr.alloc (.cells #[.int .i64 vS,.int .u32 KI,.int .i64 RC] 344 (0,0))):=(Fr.refl [] wr).alloc _;have d3:=(how.fr fA (by simp)).cell (show vS<19 by omega);have z3:=(how.fr fA (by simp)).frozen vS;obtain⟨G,hG⟩:=ai (sX (rs.take t) vS);have hGb:G<=1000:=by rw[hG];have:=qyp (rs.take t) vS;rw[dU]at this;omega
   rw[<-hG]at d3;have cm:=(how.fr fA (by simp)).set (show vS<19 by omega) (G+1);have fS:Fr [Q] w5 ((wr.alloc (.cells #[.int .i64 vS,.int .u32 KI,.int .i64 RC] 344 (0,0))).setCell ⟨Q,vS,none⟩ (.int .i64 ((G+1:Nat):Nat))):=(hf.alloc _).setCell (by simp) _;have iQ:rs.take (t+1)=rs.take t++[(vS,KI,RC)]:=by rw[zj,hr];rfl
   have HJ:=aQ cm fS hG iQ cH;clear how hf hr eF hd fA cm fS hG iQ cH;go_wp2;go_roundg k;case measure=>omega
   case rel=>
    obtain⟨cm,fS,hG,iQ,cH⟩:=HJ.out;refine⟨t+1,by go_num,by omega,?_,fS⟩;rw[iQ];refine cm.congr λs _=>?_
    rw[zcq,hG];by_cases e:s=vS
    ·rw[if_pos e,if_pos e,e]
    ·rw[if_neg e,if_neg e]
  ·obtain rfl:t=rn:=by omega
   rw[mL (by rw[<-HR.out.1];exact ay _)]at how;obtain⟨w6,pK⟩:∃w6:World,w6=wr:=⟨_,rfl⟩;rw[<-pK]at how hf ⊢;obtain⟨F0,Up⟩:=ai (sX rs);rw[<-Up]at how;have vE:∀s,F0 s<=400:=λs=>by rw[Up];have:=qyp rs s;rw[<-HR.out.1]at this;omega
   have H6:=aG how hf vE Up;clear how hf cH pK vE Up;go_wp2;go_loopg [10,12,52] 19 (λk s10 s12 s52 wz=>∃t m:Nat,s52 = .int .i64 (t:Nat)/\s10 = .int .i64 (m:Nat)/\t+k=19/\m=(aJ (dF F0) t).length/\w6=wz);case atStart=>exact⟨0,0,rfl,rfl,rfl,rfl,rfl⟩
   case round=>
    obtain⟨t2,m,rfl,rfl,cH,hm,rfl⟩:=hrel;have oM:m<=t2:=by rw[hm];exact WD _ _
    by_cases ht:t2<19
    ·obtain⟨k,rfl⟩:∃k,gk=k+1:=⟨gk-1,by omega⟩;have d3:=H6.o0.cell ht;have hb:=H6.o2 t2;obtain⟨v,hv⟩:=ai (F0 t2);rw[<-hv]at d3 hb;have Yf:=NV (dF F0) t2;rw[NT F0 ht,<-hv,<-hm]at Yf;have HJ:=ak Yf cH;clear Yf cH hm hv;by_cases u6:0<v
     ·go_wp2;go_roundg k;case measure=>omega
      case rel=>exact⟨t2+1,m+1,by go_num,by go_num,by have:=HJ.out.2;omega,by rw[HJ.out.1,if_pos u6],rfl⟩
     ·obtain rfl:v=0:=by omega
      go_wp2;go_roundg k;case measure=>omega
      case rel=>exact⟨t2+1,m,by go_num,rfl,by have:=HJ.out.2;omega,by rw[HJ.out.1];simp,rfl⟩
    ·obtain rfl:t2=19:=by omega
     have HM:=ah hm;clear hm cH ht;go_wp2;go_loopg [10,13] 19 (λk s10 s13 wz=>∃(i m:Nat) (Fc:Nat->Nat),s13 = .int .i64 (i:Nat)/\s10 = .int .i64 (m:Nat)/\i+k=19/\m=(aJ (dF Fc) 19).length/\Ow wz Q 19 Fc/\(∀s,s<19->Fc s<=400)/\(∀s,0<F0 s->0<Fc s)/\(∀j,j<i->0<Fc j)/\Fr [Q] w6 wz);case atStart=>exact⟨0,m,F0,rfl,rfl,rfl,HM.out,H6.o0,λs _=>H6.o2 s,λ_ h=>h,λj hj=>absurd hj (by omega),.refl _ _⟩
     case round=>
      obtain⟨i,m,Fc,rfl,rfl,bX,hm,how,vE,iu,aD,hf⟩:=hrel;have oM:m<=19:=by rw[hm];exact WD _ _
      by_cases iy:m<2
      ·have Md:i<2:=by
        have h1:=qoo (F:=Fc) (min i 19) (by omega) λj hj=>aD j (by omega)
        have h2:=qmr (dF Fc) (19-min i 19) (min i 19);rw[show min i 19+(19-min i 19)=19 from by omega,<-hm,h1]at h2;omega
       obtain⟨k,rfl⟩:∃k,gk=k+1:=⟨gk-1,by omega⟩;have rT:i<19:=by omega
       have d3:=how.cell rT;have z3:=how.frozen i;have hb:=vE i rT;obtain⟨v,hv⟩:=ai (Fc i);rw[<-hv]at d3 hb;by_cases u6:v=0
       ·subst u6;have cm:=how.set rT 1;have HJ:=lv cm bX hm vE iu aD hf hv;clear cm bX hm vE iu aD hf hv how;go_wp2;go_roundg k;case measure=>omega
        case rel=>
         obtain⟨cm,bX,hm,vE,iu,aD,hf,hv⟩:=HJ.out;refine⟨i+1,m+1,_,by go_num,by go_num,by omega,?_,cm,λs hs=>?_,λs hs=>?_,λj hj=>?_,hf.setCell (by simp) _⟩
         ·rw[qmq (F:=Fc) (s:=i) rT hv.symm (by simp) (λj _ hj=>by simp[hj]) 19 (ay _),if_pos rT,hm]
         ·split
          ·omega
          ·exact vE s hs
         ·split
          ·omega
          ·exact iu s hs
         ·split
          ·omega
          ·exact aD j (by omega)
       ·have q:((v:Int)==0)=false:=by simp only[beq_eq_false_iff_ne];omega
        have HJ:=lv how bX hm vE iu aD hf hv;clear how bX hm vE iu aD hf hv;go_wp2;go_roundg k;case measure=>omega
        case rel=>
         obtain⟨how,bX,hm,vE,iu,aD,hf,hv⟩:=HJ.out;refine⟨i+1,m,Fc,by go_num,rfl,by omega,hm,how,vE,iu,λj hj=>?_,hf⟩;rcases kI j i with k1|k1
         ·exact aD j k1
         ·rw[show j=i from by omega,<-hv];omega
      ·have tl:(dF Fc).length=19:=by simp[dF]
       have gy:∀c∈dF Fc,c<=2^30:=λc hc=>by simp only[dF,jo,td]at hc;obtain⟨s,hs,rfl⟩:=hc;have:=vE s hs;omega
       have fu:Ri wr (some ⟨Q,0,none⟩) 19 (dF Fc):=⟨how.cs,by rw[tl];exact ay _,by unfold maxLen;omega,λh=>by cases h⟩;have hlen:=NM (some ⟨Q,0,none⟩) 19 (dF Fc) 7 wr fu (by decide) (by decide) (by rw[tl];decide) gy (by rw[tl];have:=WD (dF Fc) 19;omega);rw[tl]at hlen;have B4:Calls Tryz.prog 130 #[.slice (some ⟨Q,0,none⟩) 19 19,.int .i64 7] wr (iB 7 (dF Fc) 19 wr):=hlen;have HJ:=aG B4 (show 2<=(aJ (dF Fc) (dF Fc).length).length by rw[tl];omega) iu hf;clear hlen B4 fu gy hm iu aD hf how vE bX tl;go_upto_region 23 with (go_at_call 130;refine HJ.out.1.mono ?_;rintro e w8 ⟨g8,cl,rfl,ok8,cs8,lo8,hi8,f8⟩;have H8:=aQ ok8 cs8 lo8 hi8 f8;clear ok8 cs8 lo8 hi8 f8);have qV:cl.length=19:=by rw[H8.o0.len];simp[dF]
       have lU:=H8.o0.full HJ.out.2.1;have Jb:Ri w8 (some ⟨g8,0,none⟩) 19 cl:=⟨H8.o1,by rw[qV];exact ay _,by unfold maxLen;omega,λh=>by cases h⟩;have AF:=Sr (some ⟨g8,0,none⟩) 19 cl w8 Jb (λx hx=>by have:=H8.o0.le x hx;omega) (by rw[qV];decide) (by rw[lU];exact ay _);unfold ib at AF;rw[qV]at AF;have ME:=aG AF Jb qV lU;clear AF Jb qV lU;go_upto_region 24 with (go_at_call 205;refine ME.o0.mono ?_;rintro e w9 ⟨g9,rfl,u9,Od,hi9,f9⟩;have H9:=aG u9 Od hi9 f9;clear u9 Od hi9 f9);go_cut [18,85] from 85 to 86 (λs18 s85 wz=>∃O:Nat,s18 = .pointer (some ⟨O,0,none⟩)/\wz.heap[O]?=some (.cells (qv.map λx=>Value.int .i64 (x:Nat)).toArray 287 (0,0))/\Fr [] w9 wz/\w9.heap.size<=O)
       case first=>
        clear H6 HJ H8 ME H9 HR HM HQ HT HA Rx Rp Ks HC HN HW H HZ;have Y0:(Tryz.prog.info? 287).map (·.size)=some 19:=by kernel_rfl
        go_wp2_with (refine wpList_store_row rfl 287 (.tmp 18) (.tmp 85) rfl w9.heap.size #[.int .i64 16,.int .i64 17,.int .i64 18,.int .i64 0,.int .i64 8,.int .i64 7,.int .i64 9,.int .i64 6,.int .i64 10,.int .i64 5,.int .i64 11,.int .i64 4,.int .i64 12,.int .i64 3,.int .i64 13,.int .i64 2,.int .i64 14,.int .i64 1,.int .i64 15] rfl rfl 287 #[.int .i64 0,.int .i64 0,.int .i64 0,.int .i64 0,.int .i64 0,.int .i64 0,.int .i64 0,.int .i64 0,.int .i64 0,.int .i64 0,.int .i64 0,.int .i64 0,.int .i64 0,.int .i64 0,.int .i64 0,.int .i64 0,.int .i64 0,.int .i64 0,.int .i64 0] (heap_alloc_last w9 _) Y0 rfl (by kernel_rfl) ?_;rw[World.setRow_alloc_new]);simp only[Act.put];go_meet;exact⟨w9.heap.size,rfl,bC w9 _,(Fr.refl [] w9).alloc _,ay _⟩
       case rest=>
       obtain⟨O,rfl,hO,f10,hO9⟩:=hcut;obtain⟨mS,OJ⟩:∃mS:World,mS=wc:=⟨_,rfl⟩;rw[<-OJ]at hO f10 ⊢;clear OJ;have qV:=ME.o2;have Uy:Fr [Q] w4 w8:=((HQ.l1.mono (by simp)).trans (H6.o1.trans HJ.out.2.2.2)).trans (H8.l4.mono (by simp));have xJ:Fr [] w8 mS:=H9.l3.trans f10;have te:TE O g8 g9 Q9 t cp4 cl rs mS:=by
        refine⟨hO,ME.o1.fr xJ,Cs.fr H9.o0 f10 (by simp),dr (dr HR.out.2.1.own Uy ?_) xJ (by simp)⟩;intro k hk;have hb:k∈af Q9:=by
         cases Q9 with
         | none=>cases hk
         | some ad=>simp only[Value.ownBlock,eJ]at hk;subst hk;simp[af]
        have:=HR.out.2.1.lt k hb;rw[<-Ks.o0]at this;simp;omega
       have J5:Fr [] w mS:=(Rp.out.step Uy (λx hx=>.inr (by simp at hx;rw[hx,Ks.o0];exact Rp.out.size))).trans xJ;have Ur:∀x∈[O,g8,g9]++af Q9,w.heap.size<=x/\x<mS.heap.size:=by
        intro x hx;have h8:=H8.o2;have h8':=H8.o3;have h9:=H9.o1;have h9':=H9.o2;have s10:=f10.size;have s9:=H9.l3.size;have s4:=Rp.out.size;have s8:=Uy.size;have s68:=(HJ.out.2.2.2.trans (H8.l4.mono (by simp))).size;have s46:=((HQ.l1.mono (T:=[Q]) (by simp)).trans H6.o1).size;have sw7:=HJ.out.2.2.2.size;simp only[jw,fP,wL,or_false]at hx;rcases hx with (rfl|rfl|rfl)|hx
        ·have:=lt_of_block hO;omega
        ·omega
        ·omega
        ·have h1:=HR.out.2.1.lt x hx;have h2:=HR.out.2.1.new x hx;have h3:=(((HN.o2.trans (Fr.av [] w1)).trans Rx.out.fr)).size;omega
       have HE:=aw te J5 Ur;have DL:Hid (Told ll dl nl nd 19 cl rs (dM 5 (nl-257)++dM 5 (nd-1)++dM 4 (19-4)++((List.range 19).flatMap λi=>dM 3 (ae cl (ord i)))++rs.flatMap (fC cl))):=ah (by
        refine⟨HN.o0,HN.o1,HR.out.2.2,qV,H8.o0.le,ME.l3,λr hr=>?_,by decide,ay _,λi h1 h2=>absurd h1 (by omega),rfl⟩
        have zbG:=(Lj HR.out.2.2 r hr).1
        have h0:0<F0 r.1:=by
         rw[H6.l3]
         exact List.count_pos_iff.2 (uL hr)
        have h1:=HJ.out.2.2.1 r.1 h0
        exact H8.o0.pos r.1 (by rw[NT Fc (by omega)];exact h1))
       have HRN:Hid (t=rs.length):=ah HR.out.1;have HF0:=ah H.l8;have HWb:Hid (Wb mS p F l):=ah (y7 H.o2 J5 (by simp));have Fm:=ah H.o7;clear te J5 Ur Uy xJ hO f10 hO9 H6 HJ H8 ME H9 HR HM HQ HT HA Rx Rp Ks HC HN HW H HZ;go_wp2;go_loopg [19] 15 (λk s19 wz=>∃nc:Nat,s19 = .int .i64 (nc:Nat)/\nc=k+4/\nc<=19/\(∀i,nc<=i->i<19->ae cl (ord i)=0)/\mS=wz);case atStart=>exact⟨19,rfl,rfl,ay _,λi h1 h2=>absurd h1 (by omega),rfl⟩
       case round=>
        obtain⟨nc,rfl,Pd,Po,oG,rfl⟩:=hrel;have key:(4<nc/\ae cl (ord (nc-1))=0)\/(4<nc/\ae cl (ord (nc-1))≠0)\/nc=4:=by omega
        rcases key with⟨h4,hv⟩|qC
        ·obtain⟨q,hq⟩:=ai (nc-1);have e1:(nc:Int)-1=(q:Int):=by omega
         rw[<-hq]at hv;have d1:=HE.o0.ord (show q<19 by omega);have iw:=RU q;obtain⟨y,hy⟩:=ai (ord q);rw[<-hy]at d1 iw hv;have d2:=HE.o0.len (show y<cl.length by omega);rw[hv]at d2;have Yu:q<19:=by omega
         have HJ:=aQ hq hy hv oG Pd;clear hq hy hv oG Pd;go_wp2;go_roundg (gk-1);case measure=>have:=HJ.out.2.2.2.2;omega
         case rel=>
          obtain⟨hq,hy,hv,oG,Pd⟩:=HJ.out;refine⟨q,by go_num,by omega,by omega,λi h1 h2=>?_,rfl⟩;rcases kI i nc with k1|k1
          ·rw[show i=q from by omega,<-hy];exact hv
          ·exact oG i k1 h2
        ·have HNC:Hid (4<=nc/\∀i,nc<=i->i<19->ae cl (ord i)=0):=ah ⟨by omega,oG⟩;have zbN:4<=nc:=by omega
         clear oG;have TP:(4<nc->ae cl (ord (nc-1))≠0):=by omega
         have UI:=ah TP;clear qC TP Pd;go_upto_region 26 with fail;go_cut [97] from 86 to 98 (λs97 wz=>s97 = .bool false/\mS=wz)
         case first=>
          by_cases h4:4<nc
          ·obtain⟨q,hq⟩:=ai (nc-1);have e1:(nc:Int)-1=(q:Int):=by omega
           have hv:=UI.out h4;rw[<-hq]at hv;have d1:=HE.o0.ord (show q<19 by omega);have iw:=RU q;obtain⟨y,hy⟩:=ai (ord q);rw[<-hy]at d1 iw hv;have d2:=HE.o0.len (show y<cl.length by omega);obtain⟨v,Ax⟩:=ai (ae cl y);rw[<-Ax]at d2 hv;have Yu:q<19:=by omega
           have q1:((v:Int)==0)=false:=by simp only[beq_eq_false_iff_ne];omega
           clear hq hy Ax;go_wp2;go_meet;exact⟨rfl,rfl⟩
          ·obtain rfl:nc=4:=by omega
           go_wp2;go_meet;exact⟨rfl,rfl⟩
         case rest=>
         obtain⟨rfl,rfl⟩:=hcut;have hEF:∀x∈[O,g8,g9]++af Q9,x∉F:=λx hx zr=>by have h1:=(HE.l2 x hx).1;have h2:=(HF0.out x zr).1;omega
         have HEF:=ah hEF;clear hEF;obtain⟨k1,yz⟩:=ai (nl-257);obtain⟨k2,rH⟩:=ai (nd-1);obtain⟨k3,xx⟩:=ai (nc-4);have e1:(nl:Int)-257=(k1:Int):=by omega
         have e2:(nd:Int)-1=(k2:Int):=by omega
         have e3:(nc:Int)-4=(k3:Int):=by omega
         have b1:k1<=100:=by omega
         have b2:k2<=100:=by omega
         have b3:k3<=100:=by omega
         have HK:=aw yz rH xx;clear yz rH xx;have yu:Calls Tryz.prog 247 #[.pointer (some ⟨p,0,none⟩),.int .u32 k1,.int .i64 5] mS (cX p F mS (l++dM 5 k1)):=Hv p F l k1 5 mS HWb.out (by omega) (by decide) (by have:=Fm.out;omega);have HP1:=ah yu;clear yu;go_upto_region 29 with (go_at_call 247;refine HP1.out.mono ?_;rintro e uG ⟨rfl,f11,g11⟩;have wF:=ah (Pg.step (Pg.start HWb.out) f11 g11);clear f11 g11);obtain⟨F11,Jf⟩:=wF.out;have mN:Calls Tryz.prog 247 #[.pointer (some ⟨p,0,none⟩),.int .u32 k2,.int .i64 5] uG (cX p F11 uG ((l++dM 5 k1)++dM 5 k2)):=Hv p F11 _ k2 5 uG Jf.wb (by omega) (by decide) (by rw[aA,ax];have:=Fm.out;omega);have mQ:=ah mN;have zaH:=ah Jf;clear mN Jf;go_upto_region 30 with (go_at_call 247;refine mQ.out.mono ?_;rintro e gh ⟨rfl,f12,g12⟩;have kY:=ah (Pg.step zaH.out f12 g12);clear f12 g12);obtain⟨F12,Je⟩:=kY.out;have AA:Calls Tryz.prog 247 #[.pointer (some ⟨p,0,none⟩),.int .u32 k3,.int .i64 4] gh (cX p F12 gh (((l++dM 5 k1)++dM 5 k2)++dM 4 k3)):=Hv p F12 _ k3 4 gh Je.wb (by omega) (by decide) (by rw[aA,aA,ax,ax];have:=Fm.out;omega);have CR:=ah AA;have zaG:=ah Je;clear AA Je;go_upto_region 31 with (go_at_call 247;refine CR.out.mono ?_;rintro e jn ⟨rfl,f13,g13⟩;have pC:=ah (Pg.step zaG.out f13 g13);clear f13 g13);obtain⟨F13,Jd⟩:=pC.out;obtain⟨L3,Un⟩:=ai (((l++dM 5 k1)++dM 5 k2)++dM 4 k3);rw[<-Un]at Jd;have Qv:L3.length=l.length+14:=by rw[Un];simp only[aA,ax]
         have Fl:=aw Jd Un Qv;have hsl:=qq6 O nc Po;clear Jd Un Qv e1 e2 e3;go_wp2;go_loopg [21,120] nc (λk s21 s120 wz=>∃(t:Nat) (F':LN),s120 = .int .i64 (t:Nat)/\t+k=nc/\Pg p F mS (L3++(List.range t).flatMap λi=>dM 3 (ae cl (ord i))) F' wz);case atStart=>exact⟨0,F13,rfl,by omega,by simpa using Fl.o0⟩
         case round=>
          obtain⟨t2,F',rfl,cH,qF⟩:=hrel;by_cases ht:t2<nc
          ·obtain⟨k,rfl⟩:∃k,gk=k+1:=⟨gk-1,by omega⟩;have te:=HE.o0.fr qF.fr HEF.out;have d1:=te.ord (show t2<19 by omega);have iw:=RU t2;obtain⟨y,hy⟩:=ai (ord t2);rw[<-hy]at d1 iw;have d2:=te.len (show y<cl.length by omega);obtain⟨v,Ax⟩:=ai (ae cl y);have hv7:v<=7:=by rw[Ax];exact DL.out.cle _ (FG (by omega))
           rw[<-Ax]at d2;have sG:((List.range t2).flatMap λi=>dM 3 (ae cl (ord i))).length=t2*3:=yQ _ (λi=>ax _ _) t2;have qE:Calls Tryz.prog 247 #[.pointer (some ⟨p,0,none⟩),.int .u32 v,.int .i64 3] wr (cX p F' wr ((L3++(List.range t2).flatMap λi=>dM 3 (ae cl (ord i)))++dM 3 v)):=Hv p F' _ v 3 wr qF.wb (by omega) (by decide) (by rw[aA,sG,Fl.l2];have:=Fm.out;omega);have HJ:=aQ qE qF hy Ax cH;clear qE qF hy Ax cH te sG;go_wp2_with (go_at_call 247;refine HJ.out.1.mono ?_;rintro e xV ⟨rfl,f14,g14⟩;have CV:=ah (Pg.step HJ.out.2.1 f14 g14);clear f14 g14);go_roundg k;case measure=>omega
           case rel=>obtain⟨F14,QI⟩:=CV.out;obtain⟨_,_,hy,Ax,cH⟩:=HJ.out;refine⟨t2+1,F14,by go_num,by omega,?_⟩;rw[List.range_succ,Bm,<-eE];simp only[vX,List.flatMap_nil,mW];rw[<-hy,<-Ax];exact QI
          ·obtain rfl:t2=nc:=by omega
           obtain⟨L4,Um⟩:=ai (L3++(List.range t2).flatMap λi=>dM 3 (ae cl (ord i)));rw[<-Um]at qF;have Qu:L4.length<=l.length+100:=by rw[Um,aA,yQ _ (λi=>ax _ _) t2,Fl.l2];omega
           have UK:=aw qF Um Qu;clear qF Um Qu cH ht hsl;go_wp2;go_loopg [23,134] t (λk s23 s134 wz=>∃(t3:Nat) (F':LN),s134 = .int .i64 (t3:Nat)/\t3+k=t/\Pg p F mS (L4++(rs.take t3).flatMap (fC cl)) F' wz);case atStart=>exact⟨0,_,rfl,by omega,by simpa using UK.o0⟩
           case round=>
            obtain⟨t3,F',rfl,cH,qF⟩:=hrel;by_cases ht:t3<t
            ·obtain⟨k,rfl⟩:∃k,gk=k+1:=⟨gk-1,by omega⟩;have te:=HE.o0.fr qF.fr HEF.out;obtain⟨g4,rfl,_,_⟩:=Io te.row (by omega);obtain⟨r,hr⟩:∃r,rs[t3]?=some r:=⟨_,br (by rw[<-HRN.out];exact ht)⟩;have lf:=Lj DL.out.runs r (gB hr);have hd:=Wu rs t3 r hr;have iQ:(rs.take (t3+1)).flatMap (fC cl)=(rs.take t3).flatMap (fC cl)++fC cl r:=by rw[zj,hr];simp
             obtain⟨ra,rb,rc⟩:=r;simp only at lf hd;have d0:wr.cell? ⟨g4,t3*3,none⟩=some (.int .i64 ra):=by rw[<-hd.1];exact yb te.row _ (by omega)
             have d1:wr.cell? ⟨g4,t3*3+1,none⟩=some (.int .u32 rb):=by rw[<-hd.2.1];exact yb te.row _ (by omega)
             have d2:wr.cell? ⟨g4,t3*3+2,none⟩=some (.int .i64 rc):=by rw[<-hd.2.2];exact yb te.row _ (by omega)
             obtain⟨S0,Dz⟩:=ai wr.heap.size;obtain⟨W1,sP⟩:∃W1,W1=wr.alloc (.cells #[.int .i64 (ra:Nat),.int .u32 (rb:Nat),.int .i64 (rc:Nat)] 344 (0,0)):=⟨_,rfl⟩;have fA:Fr [] wr W1:=by rw[sP];exact (Fr.refl [] wr).alloc _
             have vz:W1.heap[S0]?=some (.cells #[.int .i64 ra,.int .u32 rb,.int .i64 rc] 344 (0,0)):=by rw[sP,Dz];exact bC wr _
             have hSF:S0∉F':=λhx=>by have:=KU qF.wb S0 hx;omega
             have U2:=te.fr fA (by simp);have oI:ra<cl.length:=by omega
             have x1:=U2.len oI;have x2:=U2.code oI;have y0:=cell_of vz 0;have y1:=cell_of vz 1;have y2:=cell_of vz 2;simp only[bF,aT,bP]at y0 y1 y2;have yy:∀x∈cl,x<=15:=λx hx=>by have:=DL.out.cle x hx;omega
             have GL:((rs.take t3).flatMap (fC cl)).length<=400*30:=by
              have hb:∀r∈rs,(fC cl r).length<=30:=λr hr=>by have h1:=Bg cl yy r.1;have h2:=(Lj DL.out.runs r hr).2.2;unfold fC;rw[aA,ax];omega
              have h3:=RZ (fC cl) 30 (rs.take t3) λr hr=>hb r (uM hr)
              rw[dU]at h3;have h4:min t3 rs.length*30<=400*30:=uN _ (by omega);omega
             have sK:=M4 p F' _ cl ra W1.drew (y7 qF.wb (fA.trans (Fr.av [] W1)) (by simp)) yy (by rw[DL.out.full];exact ay _) (by rw[aA];have:=UK.l2;have:=Fm.out;omega);obtain⟨xc,hxc⟩:=ai (cN cl ra);obtain⟨xl,mz⟩:=ai (ae cl ra);rw[<-hxc]at x2 sK;rw[<-mz]at x1 sK;have zaN:ra<19:=by omega
             have HJ:=pY sK qF fA vz hSF iQ cH lf GL yy;have HS:=ak Dz sP;clear sK qF fA vz hSF iQ cH lf GL yy te U2 hr hd hxc mz Dz sP;go_upto_region 39 with fail;rw[<-HS.l1,<-HS.o0];clear d0 d1 d2;refine uO 11 (by kernel_rfl) (by kernel_rfl) ?_;simp only[uF];repeat (go_big_quiet_step (fail))
             refine wpQuiet_nil ?_;clear x1 x2 y0 y1 y2;go_upto_region 40 with (go_at_call 246;refine HJ.out.1.mono ?_;rintro e nL ⟨rfl,f15,g15⟩;have wE:=ak f15 (Pg.step (HJ.out.2.1.dQ (HJ.out.2.2.1.trans (Fr.av [] W1))) f15 g15);clear f15 g15);obtain⟨F15,BR⟩:=wE.out.2;have JN:=wE.out.1.af (w:=W1.drew) HJ.out.2.2.2.1 HJ.out.2.2.2.2.1;have y1:=cell_of JN 1;have y2:=cell_of JN 2;simp only[bF,aT,bP]at y1 y2;have qE:=Hv p F15 _ rb rc nL BR.wb (by have:=HJ.out.2.2.2.2.2.2.2.1;omega) (by have:=HJ.out.2.2.2.2.2.2.2.1;omega) (by rw[aA,aA];have:=UK.l2;have:=Fm.out;have:=HJ.out.2.2.2.2.2.2.2.2.1;have:=Bg cl HJ.out.2.2.2.2.2.2.2.2.2 ra;omega);have Rs:=ak qE BR;clear qE BR JN;go_wp2_with (go_at_call 247;refine Rs.o0.mono ?_;rintro e ug ⟨rfl,f16,g16⟩;have yX:=ah (Pg.step Rs.l1 f16 g16);clear f16 g16);go_roundg k;case measure=>omega
             case rel=>obtain⟨F16,nG⟩:=yX.out;obtain⟨_,_,_,_,_,iQ,cH,_⟩:=HJ.out;refine⟨t3+1,F16,by go_num,by omega,?_⟩;rw[iQ,<-eE];unfold fC;rw[<-eE];exact nG
            ·obtain rfl:t3=t:=by omega
             rw[mL (by rw[HRN.out];exact ay _)]at qF;have HJ:=ah qF;clear qF cH;go_wp2;(try simp only[Exit.inBlock,Exit.then]);refine bodyPost_end (results_none rfl _ _ _) rfl ?_;have hq:=HJ.out;refine⟨rfl,(HE.o1.mono (by simp)).trans hq.fr,nl,nd,t2,cl,rs,_,{ DL.out with nc4:=HNC.o0,nc19:=Po,rest:=HNC.l1,bits:=rfl },_,?_,λy hy=>(hq.new y hy).imp id λk=>ck HE.o1.size k⟩;have h3:=hq.wb;rw[UK.o1,Fl.o1]at h3;rw[<-HK.o0,<-HK.o1,<-HK.l2];simpa only[eE] using h3
theorem KW {w:World} {a:OA} {cap:Nat} {xs:LN} (h:Ri w a cap xs) (hn:0<xs.length):∀x∈af a,x<w.heap.size:=by intro x hx;obtain⟨g,o,rfl,_⟩:=h.at hn;have:=h.cs.lt (by intro e;have:=congrArg List.length e;rw[bW]at this;simp at this;rw[this]at hn;simp at hn) ⟨g,o,none⟩ rfl;simp[af]at hx;rw[hx];exact this
def fh (ll dl:LN) (T:List Tok) (last told:Bool) (b:List Bool):Prop:=
 ∃hd,b=[last]++dM 2 (if told then 2 else 1)++hd++bG ll dl T++cq ll 256/\(told=false->hd=[])/\(told=true->∃nl nd nc cl rs,Told ll dl nl nd nc cl rs hd)
theorem qun {ll dl:LN} {nl nd nc:Nat} {cl:LN} {rs:List Rn} {b:List Bool} (h:Told ll dl nl nd nc cl rs b) (h1:ll.length=286) (h2:dl.length=30):b.length<=20000:=by
 have hr:=h.runs.len;rw[aA,dU,dU]at hr;have hle:∀x∈cl,x<=15:=λx hx=>by have:=h.cle x hx;omega
 have h3:=RZ (fC cl) 30 rs λr hr=>by have k1:=Bg cl hle r.1;have k2:=(Lj h.runs r hr).2.2;unfold fC;rw[aA,ax];omega
 have yq:rs.length<=316:=by simp at hr;omega
 have h4:rs.length*30<=316*30:=uN _ yq;have h5:=h.nc19;rw[h.bits];simp only[aA,ax,yQ _ (λi=>ax _ _)];omega
theorem qw8 (p:Nat) (F:LN) (l0:List Bool) (b:LB) (a al:OA) (cap cl r:Nat) (l:List Mt) (a1 a2:OA) (c1 c2:Nat) (ll dl:LN) (told last:Bool) (w:World)
  (hb:Rd w a cap b) (hl:Cs w al (bS l)) (pM:l.length<=cl) (rG:al=none->cl=0) (nT:cl<=maxLen) (dt:dC b r 0 l) (hr:r<=32768) (iA:b.length<=1000000)
  (h1:Ri w a1 c1 ll) (h2:Ri w a2 c2 dl) (hW:Wb w p F l0) (n1:286<=ll.length) (IP:ll.length<=400) (n2:30<=dl.length) (Dl:dl.length<=400) (nt:told=true->ll.length=286/\dl.length=30)
  (je:∀x∈ll,x<=15) (jd:∀x∈dl,x<=15) (cP:weight ll<=32768) (bL:weight dl<=32768) (hL:l0.length<=1000000000)
  (hF:∀x∈F,x<w.heap.size/\x∉af a1/\x∉af a2/\x∉af a/\x∉af al) (fH:∀x∈af a,x<w.heap.size) (oN:∀x∈af al,x<w.heap.size) :
  Calls Tryz.prog 242 #[.agg #[.slice a b.length cap,.slice al l.length cl,.slice a1 ll.length c1,.slice a2 dl.length c2,.bool told],.pointer (some ⟨p,0,none⟩),.bool last] w λe w'=>
   e = .returned (.tuple #[])/\Fr F w w'/\∃bb,fh ll dl (bE b 0 l) last told bb/\∃F',Wb w' p F' (l0++bb)/\∀y∈F',y∈F\/w.heap.size<=y:=by
 obtain⟨B,hB⟩:=ai w.heap.size;obtain⟨BL,j9⟩:=ai b.length;obtain⟨LL,oQ⟩:=ai l.length;obtain⟨m1,jt⟩:=ai ll.length;obtain⟨m2,iy⟩:=ai dl.length;rw[<-j9,<-oQ,<-jt,<-iy];obtain⟨w1,ph⟩:∃w1,w1=(w.alloc (.cells #[.slice a BL cap,.slice al LL cl,.slice a1 m1 c1,.slice a2 m2 c2,.bool told] 197 (0,0))).alloc (.cells #[.pointer (some ⟨p,0,none⟩)] 250 (0,0)):=⟨_,rfl⟩;have f1:Fr [] w w1:=by rw[ph];exact ((Fr.refl [] w).alloc _).alloc _
 have iI:w1.heap[B]?=some (.cells #[.slice a BL cap,.slice al LL cl,.slice a1 m1 c1,.slice a2 m2 c2,.bool told] 197 (0,0)):=by rw[ph,hB];exact qm _ (bC w _)
 have JI:w1.heap[B+1]?=some (.cells #[.pointer (some ⟨p,0,none⟩)] 250 (0,0)):=by rw[ph,hB];have:=bC (w.alloc (.cells #[.slice a BL cap,.slice al LL cl,.slice a1 m1 c1,.slice a2 m2 c2,.bool told] 197 (0,0))) (.cells #[.pointer (some ⟨p,0,none⟩)] 250 (0,0));rwa [fD]at this
 have ve:w1.heap.size=B+2:=by rw[ph,fD,fD,<-hB]
 have sP:Wb w1 p F l0:=y7 hW f1 (by simp);have Mr:B∉F/\B+1∉F:=⟨λh=>by have:=(hF B h).1;omega,λh=>by have:=(hF (B+1) h).1;omega⟩;have H:=pX hb hl pM rG nT dt hr iA h1 h2 nt;have HR:=pY n1 IP n2 Dl je jd cP bL hL hF;have HE:=aQ j9 oQ jt iy hB;have HW:=cJ f1 iI JI ve sP Mr;have Rm:=ah ph.symm;have HLA:=ak fH oN;clear fH oN;have e4:=cell_of iI 4;have d0:=cell_of JI 0;simp only[bF,aT,bP]at e4 d0;clear hb hl pM rG nT dt hr iA h1 h2 nt n1 IP n2 Dl je jd cP bL hL hF j9 oQ jt iy f1 iI JI ve sP Mr ph hW;go_enter Tryz.func242,Tryz.ntmps242;go_upto_region 1 with fail;rw[Rm.out,<-HE.l4];clear hB;go_upto_if 11 with fail;obtain⟨pp,Az⟩:=ai (B+1);rw[<-Az]at d0 ⊢;have DJ:=ah Az;clear Az;go_cut [] from 11 to 21 (λwz=>∃hd F',((told=false->hd=[])/\(told=true->∃nl nd nc cl rs,Told ll dl nl nd nc cl rs hd))/\Pg p F w1 (l0++([last]++dM 2 (if told then 2 else 1))++hd) F' wz)
 case first=>
  cases told with
  | false=>
   have hh:Calls Tryz.prog 243 #[.pointer (some ⟨p,0,none⟩),.bool last,.int .u32 1] w1 (cX p F w1 (l0++last::dM 2 1)):=Ik p F l0 last 1 w1 HW.o4 (by decide) (by have:=HR.o8;omega);have HH:=ah hh;clear hh;go_wp2_with (go_at_call 243;refine HH.out.mono ?_;rintro e w2 ⟨rfl,f2,g2⟩;have H2:=ah (Pg.step (Pg.start HW.o4) f2 g2);clear f2 g2);go_meet;obtain⟨F2,h2⟩:=H2.out;exact⟨[],F2,⟨λ_=>rfl,(λh=>by cases h)⟩,by simpa using h2⟩
  | true=>
   have hh:Calls Tryz.prog 243 #[.pointer (some ⟨p,0,none⟩),.bool last,.int .u32 2] w1 (cX p F w1 (l0++last::dM 2 2)):=Ik p F l0 last 2 w1 HW.o4 (by decide) (by have:=HR.o8;omega);have HH:=ah hh;have L7:=H.l10 rfl;have Pv:m1=286:=by rw[HE.o2];exact L7.1
   have YQ:m2=30:=by rw[HE.o3];exact L7.2
   subst Pv;subst YQ;clear hh L7;go_upto_region 3 with (go_at_call 243;refine HH.out.mono ?_;rintro e w2 ⟨rfl,f2,g2⟩;have H2:=ah (Pg.step (Pg.start HW.o4) f2 g2);clear f2 g2);obtain⟨F2,mN⟩:=H2.out;have kR:=mN.fr.af HW.o1 HW.l5.1;have uw:=mN.fr.af HW.o2 HW.l5.2;rw[<-DJ.out]at uw;have y0:=cell_of kR 0;have y1:=cell_of kR 1;have y2:=cell_of kR 2;have y3:=cell_of kR 3;have y4:=cell_of kR 4;have y5:=cell_of uw 0;simp only[bF,aT,bP]at y0 y1 y2 y3 y4 y5;have eG:Fr F w w2:=(HW.o0.mono (by simp)).trans mN.fr;have iP:=zb7 p F2 _ (.slice a BL cap) (.slice al LL cl) a1 a2 c1 c2 ll dl true w2 rfl rfl
    (CZ H.o8 eG (λx hx zr=>(HR.l9 x zr).2.1 hx)) (CZ H.o9 eG (λx hx zr=>(HR.l9 x zr).2.2.1 hx)) mN.wb HE.o2.symm HE.o3.symm HR.o4 HR.o5
    (by rw[aA,bU,ax];have:=HR.o8;omega)
    (λx hx=>by
     refine⟨KU mN.wb x hx,λh=>?_,λh=>?_⟩
     ·rcases mN.new x hx with k|k
      ·exact (HR.l9 x k).2.1 h
      ·have h3:=KW H.o8 (by have:=HR.o0;omega) x h
       have:=HW.o0.size
       omega
     ·rcases mN.new x hx with k|k
      ·exact (HR.l9 x k).2.2.1 h
      ·have h3:=KW H.o9 (by have:=HR.o2;omega) x h
       have:=HW.o0.size
       omega)
   have HT:=ah iP;have mQ:=ah mN;clear iP mN kR uw eG;go_wp2_with (go_at_call 244;refine HT.out.mono ?_;rintro e w3 ⟨rfl,f3,nl,nd,nc,Mw,rs,bt,ht,g3⟩;have H3:=ak (show ∃nl nd nc cl rs,Told ll dl nl nd nc cl rs bt from ⟨nl,nd,nc,Mw,rs,ht⟩) (Pg.step mQ.out f3 g3);clear f3 g3 ht);go_meet;obtain⟨F3,h3⟩:=H3.out.2;exact⟨bt,F3,⟨(λh=>by cases h),λ_=>H3.out.1⟩,by simpa using h3⟩
 case rest=>
 obtain⟨hd,F2,qO,qF⟩:=hcut;obtain⟨w2,bL⟩:∃w2:World,w2=wc:=⟨_,rfl⟩;rw[<-bL]at qF ⊢;clear bL e4 d0;have hU:hd.length<=20000:=by
  cases told with
  | false=>rw[qO.1 rfl];exact ep _
  | true=>obtain⟨nl,nd,nc,Mw,rs,ht⟩:=qO.2 rfl;have L7:=H.l10 rfl;exact qun ht L7.1 L7.2
 have eG:Fr F w w2:=(HW.o0.mono (by simp)).trans qF.fr;have kR:=qF.fr.af HW.o1 HW.l5.1;have uw:=qF.fr.af HW.o2 HW.l5.2;rw[<-DJ.out]at uw;have DN:=CZ H.o8 eG (λx hx zr=>(HR.l9 x zr).2.1 hx);have Fv:=CZ H.o9 eG (λx hx zr=>(HR.l9 x zr).2.2.1 hx);have cY:=Sr a1 c1 ll w2 DN HR.o4 HR.o1 HR.o6;unfold ib at cY;rw[<-HE.o2]at cY;have y2:=cell_of kR 2;simp only[bF,aT,bP]at y2;have H2:=lv qO qF hU eG kR uw DN Fv;have HC1:=ah cY;clear qO qF hU eG kR uw DN Fv cY;go_upto_region 6 with (go_at_call 205;refine HC1.out.mono ?_;rintro e w3 ⟨g1,rfl,u3,lo3,TR,f3⟩;have H3:=aG u3 lo3 TR f3;clear u3 lo3 TR f3);clear y2;obtain⟨q6,Tz⟩:=ai w3.heap.size;obtain⟨w4,gw⟩:=ai (w3.alloc (.cells #[.slice (some ⟨g1,0,none⟩) m1 m1] 147 (0,0)));have j8:w4.heap[q6]?=some (.cells #[.slice (some ⟨g1,0,none⟩) m1 m1] 147 (0,0)):=by rw[gw,Tz];exact bC w3 _
 have f4:Fr [] w3 w4:=by rw[gw];exact (Fr.refl [] w3).alloc _
 rw[<-gw,<-Tz];have H4:=aG j8 f4 Tz gw;clear j8 f4 Tz gw;have f24:Fr [] w2 w4:=H3.out.2.2.2.trans H4.o1;have jD:=Sr a2 c2 dl w4 (H2.out.2.2.2.2.2.2.2.fr f24) HR.o5 HR.o3 HR.o7;unfold ib at jD;rw[<-HE.o3]at jD;have y3:=cell_of (f24.af H2.out.2.2.2.2.1 (by simp)) 3;simp only[bF,aT,bP]at y3;have Hf:=ak jD f24;clear jD f24;go_upto_region 7 with (go_at_call 205;refine Hf.o0.mono ?_;rintro e w5 ⟨g2,rfl,u5,lo5,Mb,f5⟩;have H5:=aG u5 lo5 Mb f5;clear u5 lo5 Mb f5);clear y3;obtain⟨q8,O3⟩:=ai w5.heap.size;obtain⟨w6,pK⟩:=ai (w5.alloc (.cells #[.slice (some ⟨g2,0,none⟩) m2 m2] 147 (0,0)));have rX:w6.heap[q8]?=some (.cells #[.slice (some ⟨g2,0,none⟩) m2 m2] 147 (0,0)):=by rw[pK,O3];exact bC w5 _
 have f6:Fr [] w5 w6:=by rw[pK];exact (Fr.refl [] w5).alloc _
 rw[<-pK,<-O3];have H6:=aG rX f6 O3 pK;clear rX f6 O3 pK;have f46:Fr [] w4 w6:=H5.l3.trans H6.o1;have f26:Fr [] w2 w6:=Hf.l1.trans f46;have tO:=f26.af H2.out.2.2.2.2.1 (by simp);have JK:=f26.af H2.out.2.2.2.2.2.1 (by simp);have env:Env p pp q6 B q8 g1 g2 a1 a2 c1 c2 m1 m2 ll dl w6:=by have k0:=cell_of JK 0;have k2:=cell_of tO 2;have k3:=cell_of tO 3;have k6:=cell_of (f46.af H4.o0 (by simp)) 0;have k8:=cell_of H6.o0 0;simp only[bF,aT,bP]at k0 k2 k3 k6 k8;exact⟨k0,k6,k2,k3,k8,Cs.fr H3.out.1 (H4.o1.trans f46) (by simp),Cs.fr H5.o0 H6.o1 (by simp),H2.out.2.2.2.2.2.2.1.fr f26,H2.out.2.2.2.2.2.2.2.fr f26,HE.o2,HE.o3⟩
 have zw:=H2.out.2.1.fr.size;have Ym:=H3.out.2.2.2.size;have Yl:=H4.o1.size;have Yk:=H5.l3.size;have Yj:=H6.o1.size;have LX:=HW.o0.size;have hzB:=HW.o3;have ZR:∀x∈vH pp q6 B q8 g1 g2 a1 a2,x∉F2/\x<w6.heap.size:=by
  intro x hx;have hn:=H2.out.2.1.new x;have EZ:=KW H.o8 (by have:=HR.o0;omega) x;have uz:=KW H.o9 (by have:=HR.o2;omega) x;have L9:x∈F2->x<w2.heap.size:=KU H2.out.2.1.wb x;have k3:=H3.out.2.1;have k3':=H3.out.2.2.1;have k5:=H5.o1;have k5':=H5.o2;have kq6:=H4.o2;have kq8:=H6.o2;have kpp:=DJ.out;have l6:=lt_of_block H4.o0;have l8:=lt_of_block H6.o0;have lB:=lt_of_block tO;have lp:=lt_of_block JK;simp only[vH,jw,fP,wL,or_false]at hx;rcases hx with ((rfl|rfl|rfl|rfl|rfl|rfl)|hx)|hx
  ·refine⟨λh=>?_,by omega⟩;rcases hn h with k|k
   ·rw[kpp]at k;exact HW.l5.2 k
   ·omega
  ·exact⟨λh=>by have:=L9 h;omega,by omega⟩
  ·refine⟨λh=>?_,by omega⟩;rcases hn h with k|k
   ·exact HW.l5.1 k
   ·omega
  ·exact⟨λh=>by have:=L9 h;omega,by omega⟩
  ·exact⟨λh=>by have:=L9 h;omega,by omega⟩
  ·exact⟨λh=>by have:=L9 h;omega,by omega⟩
  ·have:=EZ hx;refine⟨λh=>?_,by omega⟩;rcases hn h with k|k
   ·exact (HR.l9 x k).2.1 hx
   ·omega
  ·have:=uz hx;refine⟨λh=>?_,by omega⟩;rcases hn h with k|k
   ·exact (HR.l9 x k).2.2.1 hx
   ·omega
 obtain⟨L0,Uo⟩:=ai (l0++([last]++dM 2 (if told then 2 else 1))++hd);have Qx:L0.length<=1000100000:=by rw[Uo];simp only[aA,ax,bU,kg];have:=HR.o8;have:=H2.out.2.2.1;omega
 have I5:Wb w6 p F2 L0:=by rw[Uo];exact y7 H2.out.2.1.wb f26 (by simp)
 have G4:Fr F w w6:=H2.out.2.2.2.1.trans (f26.mono (by simp));have Cg:Rd w6 a cap b:=H.o0.gJ G4 λx hx zr=>(HR.l9 x zr).2.2.2.1 hx
 have Jq:Cs w6 al (bS l):=H.o1.fr G4 λx hx zr=>(HR.l9 x zr).2.2.2.2 hx
 have YT:286<=m1:=by rw[HE.o2];exact HR.o0
 have YR:30<=m2:=by rw[HE.o3];exact HR.o2
 have EU:=qvy 245 #[.pointer (some ⟨pp,0,none⟩),.pointer (some ⟨q6,0,none⟩),.pointer (some ⟨B,0,none⟩),.pointer (some ⟨q8,0,none⟩)] (λ_ _=>by kernel_rfl)
  (λT F' w'=>Env p pp q6 B q8 g1 g2 a1 a2 c1 c2 m1 m2 ll dl w'/\Wb w' p F' (L0++bG ll dl T)/\(∀x∈vH pp q6 B q8 g1 g2 a1 a2,x∉F'/\x<w'.heap.size)/\(bG ll dl T).length<=48*T.length) F2
  b a al cap cl r l (.slice a1 m1 c1) (.slice a2 m2 c2) told w6 rfl rfl Cg Jq H.o2 H.o3 H.o4 H.o5 H.o6 H.o7
  (λx hx=>by
   have L9:=KU I5 x hx
   refine⟨L9,λh=>?_,λh=>?_⟩
   ·rcases H2.out.2.1.new x hx with k|k
    ·exact (HR.l9 x k).2.2.2.1 h
    ·have:=HLA.o0 x h;omega
   ·rcases H2.out.2.1.new x hx with k|k
    ·exact (HR.l9 x k).2.2.2.2 h
    ·have:=HLA.l1 x h;omega)
  (λw' f=>⟨env.fr f (by simp),by simpa[bG] using y7 I5 f (by simp),λx hx=>⟨(ZR x hx).1,eW (ZR x hx).2 f.size⟩,by simp[bG]⟩)
  (λT F' c w' hT ⟨ev,dH,hE,hTl⟩=>by
   refine (zbz p pp q6 B q8 g1 g2 a1 a2 c1 c2 m1 m2 ll dl F' _ c w' ev dH HR.o4 HR.o6 (by omega) (by rw[aA];have:=H.o7;omega)).mono ?_
   rintro e KG ⟨rfl,f',F'',sN,xq⟩
   have hk:=WH ll dl HR.o4 HR.o5 (.lit c) (λn d h=>by cases h)
   refine⟨rfl,f',F'',⟨ev.fr f' (λx hx=>(hE x hx).1),by rw[SH,<-eE];exact sN,λx hx=>⟨λh=>?_,eW (hE x hx).2 f'.size⟩,by rw[SH,aA,aA];simp only[bU,kg];omega⟩,xq⟩
   rcases xq x h with k|k
   ·exact (hE x hx).1 k
   ·have:=(hE x hx).2;omega)
  (λT F' n d g o w' hT ⟨ev,dH,hE,hTl⟩ h3 iJ h1 tK hg e1 e2=>by
   refine (zby p pp q6 B q8 g1 g2 g o a1 a2 c1 c2 m1 m2 ll dl F' _ n d w' ev dH HR.o4 HR.o6 HR.o5 HR.o7 YT YR (by rw[aA];have:=H.o7;omega) hE h3 iJ h1 tK hg e1 e2).mono ?_
   rintro e KG ⟨rfl,f',F'',sN,xq⟩
   have hk:=WH ll dl HR.o4 HR.o5 (.mat n d) (λn' d' h=>by cases h;exact⟨h3,iJ,h1,tK⟩)
   refine⟨rfl,f',F'',⟨ev.fr f' (λx hx=>(hE x hx).1),by rw[SH,<-eE];exact sN,λx hx=>⟨λh=>?_,eW (hE x hx).2 f'.size⟩,by rw[SH,aA,aA];simp only[bU,kg];omega⟩,xq⟩
   rcases xq x h with k|k
   ·exact (hE x hx).1 k
   ·have:=(hE x hx).2;omega)
 unfold xM at EU;rw[<-HE.o0,<-HE.o1]at EU;have y0:=cell_of tO 0;have y1:=cell_of tO 1;have y2:=cell_of tO 2;have y3:=cell_of tO 3;have y4:=cell_of tO 4;simp only[bF,aT,bP]at y0 y1 y2 y3 y4;have HEA:=ah EU;have HX:=aw G4 Uo Qx;clear EU Uo Qx I5 G4 Cg Jq env ZR f46 f26 tO JK zw Ym Yl Yk Yj LX hzB;go_upto_region 8 with (go_at_call 156;refine HEA.out.mono ?_;rintro e w7 ⟨rfl,f7,F7,⟨G5,BD,Us,E0⟩,Ph⟩;have H7:=cJ f7 G5 BD Us E0 Ph;clear f7 G5 BD Us E0 Ph);clear y0 y1 y2 y3 y4;obtain⟨f7,G5,BD,Us,E0,Ph⟩:=H7.out;obtain⟨ga,oa,ea,d1,d2⟩:=G5.Hl (show 256<m1 by omega);subst ea;have d3:=G5.c4;have d4:=G5.c6;have d5:=G5.c32;have bw:=M4 p F7 _ ll 256 w7.drew (y7 BD (Fr.av [] w7) (by simp)) HR.o4 HR.o6 (by rw[aA];have:=Nt b 0 l;have:=H.o7;have:=HX.l2;omega);obtain⟨x,hx⟩:=ai (cN ll 256);obtain⟨y,hy⟩:=ai (ae ll 256);rw[<-hx]at d2 bw;rw[<-hy]at d1 bw;have hg:decide ((m1:Int)<=256)=false:=by simp;omega
 have HC:=ah bw;have HF7:=ak f7 Ph;clear bw f7 G5 BD Us E0 Ph hx hy;refine uO 8 (by kernel_rfl) (by kernel_rfl) ?_;simp only[uF];repeat (go_big_quiet_step (fail))
 refine wpQuiet_nil ?_;go_wp2_with (go_at_call 246;refine HC.out.mono ?_;rintro e w8 ⟨rfl,f8,F8,uy,yx⟩);(try simp only[Exit.inBlock,Exit.then]);refine bodyPost_end (results_none rfl _ _ _) rfl ?_;have GM:Fr F w w7:=HX.o0.step HF7.out.1 λy hy=>by
  rcases H2.out.2.1.new y hy with k|k
  ·exact .inl k
  ·exact .inr (ck HW.o0.size k)
 have Qz:∀y∈F7,y∈F\/w.heap.size<=y:=λy hy=>by
  rcases HF7.out.2 y hy with k|k
  ·rcases H2.out.2.1.new y k with k2|k2
   ·exact .inl k2
   ·exact .inr (ck HW.o0.size k2)
  ·exact .inr (ck HX.o0.size k)
 refine⟨rfl,(GM.trans ((Fr.av [] w7).mono (by simp))).step f8 λy hy=>Qz y hy,[last]++dM 2 (if told then 2 else 1)++hd++bG ll dl (bE b 0 l)++cq ll 256,⟨hd,rfl,H2.out.1.1,H2.out.1.2⟩,F8,?_,λy hy=>?_⟩
 ·rw[HX.o1]at uy;simpa only[eE] using uy
 ·rcases yx y hy with k|k
  ·exact Qz y k
  ·exact .inr (ck GM.size k)
def qX (i:Nat):Nat:=if i<144 then 8 else if i<256 then 9 else if i<280 then 7 else 8
def pQ (n:Nat):List Nat:=(List.range n).map qX
theorem R8 (n:Nat):pQ (n+1)=pQ n++[qX n]:=by unfold pQ;rw[List.range_succ,gF];rfl
theorem NK (a b:LN):ints (a++b)=ints a++ints b:=by simp[ints]
theorem zik {i:Nat} (h:i<144):qX i=8:=by unfold qX;rw[if_pos h]
theorem zij {i:Nat} (h1:¬i<144) (h:i<256):qX i=9:=by unfold qX;rw[if_neg h1,if_pos h]
theorem zii {i:Nat} (h1:¬i<144) (h2:¬i<256) (h:i<280):qX i=7:=by unfold qX;rw[if_neg h1,if_neg h2,if_pos h]
theorem zih {i:Nat} (h1:¬i<144) (h2:¬i<256) (h:¬i<280):qX i=8:=by unfold qX;rw[if_neg h1,if_neg h2,if_neg h]
def rq (w:World) (e:Ending) (w':World):Prop:=
 ∃a1 c1 a2 c2,e = .returned (.tuple #[.slice a1 288 c1,.slice a2 30 c2])/\Made w w' 3 1 a1 288 c1 (ints (pQ 288))/\Made w w' 3 1 a2 30 c2 (ints (List.replicate 30 5))
theorem qxh (w:World):Calls Tryz.prog 127 #[] w (rq w):=by
 go_enter Tryz.func127,Tryz.ntmps127;go_wp2;go_loopg [0,2,3,9,17] 288 (λk s0 s2 s3 s9 s17 wr=>∃(i:Nat) (ao:OA) (cp:Nat),s3 = .int .i64 (i:Nat)/\s0 = .slice ao i cp/\i+k=288/\Made w wr 3 1 ao i cp (ints (pQ i)));case atStart=>exact⟨0,none,0,rfl,rfl,rfl,.none w _ _⟩
 case round=>
  obtain⟨i,ao,cp,rfl,rfl,bX,hm⟩:=hrel;have HI:=ak hm bX;clear hm;by_cases hi:i<288
  ·obtain⟨k,rfl⟩:∃k,gk=k+1:=⟨gk-1,by omega⟩;clear bX;by_cases h1:i<144
   ·go_wp2_with (refine gM pG rfl _ _ rfl (.slice ao i cp) i (ints (pQ i)) (af ao) rfl (dD ao i cp) (HI.o0.eG ((Fr.refl [] _).alloc _)).own (some ⟨wr.heap.size,0,none⟩) 1 1 [.int .i64 8] (by first|rfl|simp) (ay _) (λh=>by cases h) (nM _ _ _ _ (bC _ _)) rfl (by intro u hu;simp only[iH]at hu;rw[hu];rfl) (by omega) (by unfold maxLen;omega) ?_;intro dv gg w2 bN;have HA:=ah ((HI.o0.eG ((Fr.refl [] _).alloc _)).app bN);clear bN);go_roundg k;case measure=>omega
    case rel=>refine⟨i+1,dv,gg,by go_num,rfl,by have:=HI.l1;omega,?_⟩;have Fb:=HA.out;rw[R8,NK,zik h1];exact Fb
   ·by_cases h2:i<256
    ·have h4:¬280<=i:=by omega
     go_wp2_with (refine gM pG rfl _ _ rfl (.slice ao i cp) i (ints (pQ i)) (af ao) rfl (dD ao i cp) (HI.o0.eG ((Fr.refl [] _).alloc _)).own (some ⟨wr.heap.size,0,none⟩) 1 1 [.int .i64 9] (by first|rfl|simp) (ay _) (λh=>by cases h) (nM _ _ _ _ (bC _ _)) rfl (by intro u hu;simp only[iH]at hu;rw[hu];rfl) (by omega) (by unfold maxLen;omega) ?_;intro dv gg w2 bN;have HA:=ah ((HI.o0.eG ((Fr.refl [] _).alloc _)).app bN);clear bN);go_roundg k;case measure=>omega
     case rel=>refine⟨i+1,dv,gg,by go_num,rfl,by have:=HI.l1;omega,?_⟩;have Fb:=HA.out;rw[R8,NK,zij h1 h2];exact Fb
    ·by_cases h3:i<280
     ·have h4:¬280<=i:=by omega
      go_wp2_with (refine gM pG rfl _ _ rfl (.slice ao i cp) i (ints (pQ i)) (af ao) rfl (dD ao i cp) (HI.o0.eG ((Fr.refl [] _).alloc _)).own (some ⟨wr.heap.size,0,none⟩) 1 1 [.int .i64 7] (by first|rfl|simp) (ay _) (λh=>by cases h) (nM _ _ _ _ (bC _ _)) rfl (by intro u hu;simp only[iH]at hu;rw[hu];rfl) (by omega) (by unfold maxLen;omega) ?_;intro dv gg w2 bN;have HA:=ah ((HI.o0.eG ((Fr.refl [] _).alloc _)).app bN);clear bN);go_roundg k;case measure=>omega
      case rel=>refine⟨i+1,dv,gg,by go_num,rfl,by have:=HI.l1;omega,?_⟩;have Fb:=HA.out;rw[R8,NK,zii h1 h2 h3];exact Fb
     ·have h4:280<=i:=by omega
      go_wp2_with (refine gM pG rfl _ _ rfl (.slice ao i cp) i (ints (pQ i)) (af ao) rfl (dD ao i cp) (HI.o0.eG ((Fr.refl [] _).alloc _)).own (some ⟨wr.heap.size,0,none⟩) 1 1 [.int .i64 8] (by first|rfl|simp) (ay _) (λh=>by cases h) (nM _ _ _ _ (bC _ _)) rfl (by intro u hu;simp only[iH]at hu;rw[hu];rfl) (by omega) (by unfold maxLen;omega) ?_;intro dv gg w2 bN;have HA:=ah ((HI.o0.eG ((Fr.refl [] _).alloc _)).app bN);clear bN);go_roundg k;case measure=>omega
      case rel=>refine⟨i+1,dv,gg,by go_num,rfl,by have:=HI.l1;omega,?_⟩;have Fb:=HA.out;rw[R8,NK,zih h1 h2 h3];exact Fb
  ·obtain rfl:i=288:=by omega
   clear bX;obtain⟨wo,rfl⟩:∃wo:World,wo=wr:=⟨_,rfl⟩;go_wp2;go_loopg [1,24] 30 (λk s1 s24 wr=>∃(j:Nat) (a2:OA) (c2:Nat),s24 = .int .i64 (j:Nat)/\s1 = .slice a2 j c2/\j+k=30/\Made wo wr 3 1 a2 j c2 (ints (List.replicate j 5)));case atStart=>exact⟨0,none,0,rfl,rfl,rfl,.none wo _ _⟩
   case round=>
    obtain⟨j,a2,c2,rfl,rfl,fx,hm⟩:=hrel;have HJ:=ak hm fx;clear hm;by_cases hj:j<30
    ·obtain⟨k,rfl⟩:∃k,gk=k+1:=⟨gk-1,by omega⟩;clear fx;go_wp2_with (refine gM pG rfl _ _ rfl (.slice a2 j c2) j (ints (List.replicate j 5)) (af a2) rfl (dD a2 j c2) (HJ.o0.eG ((Fr.refl [] _).alloc _)).own (some ⟨wr.heap.size,0,none⟩) 1 1 [.int .i64 5] (by first|rfl|simp) (ay _) (λh=>by cases h) (nM _ _ _ _ (bC _ _)) rfl (by intro u hu;simp only[iH]at hu;rw[hu];rfl) (by omega) (by unfold maxLen;omega) ?_;intro dv gg w2 bN;have HA:=ah ((HJ.o0.eG ((Fr.refl [] _).alloc _)).app bN);clear bN);go_roundg k;case measure=>omega
     case rel=>refine⟨j+1,dv,gg,by go_num,rfl,by have:=HJ.l1;omega,?_⟩;have Fb:=HA.out;rw[Ix,NK];exact Fb
    ·obtain rfl:j=30:=by omega
     clear fx;go_wp2;go_ret2;exact⟨ao,cp,a2,c2,rfl,HI.o0.eG HJ.o0.fr,HJ.o0.pre HI.o0.fr⟩
theorem zaz {ll dl:LN} {T:List Tok} {told:Bool} {b:List Bool} (h:fh ll dl T true told b):0<b.length:=by obtain⟨hd,rfl,_⟩:=h;simp only[aA,bU,kg];omega
theorem VF {b:LB} {r:Nat} (hr:r<=32768):∀(k i:Nat) (l:List Mt),k=b.length-i->dC b r i l->∀x∈bE b i l,∀n d,x = .mat n d->3<=n/\n<=258/\1<=d/\d<=32768:=by
 intro k;induction k using Nat.strongRecOn with
 | ind k ih=>
  intro i l hk dt x hx n d he;by_cases h:i<b.length
  ·match l,dt with
   | [],dt=>
    rw[Ip h (λa n d t he=>by cases he)]at hx;rcases fP.1 hx with e|e
    ·rw[e]at he;cases he
    ·exact ih (b.length-(i+1)) (by omega) (i+1) [] rfl trivial x e n d he
   | (a,n',d')::t,dt=>
    by_cases hc:a=i
    ·subst hc;have jD:=dt;obtain⟨k1,k2,k3,k4,k5,k6,k7,_,k9⟩:=jD;rw[So h (by omega)]at hx;rcases fP.1 hx with e|e
     ·rw[e]at he;simp only[Tok.mat.injEq]at he;obtain⟨rfl,rfl⟩:=he;exact⟨k2,k3,k4,by omega⟩
     ·exact ih (b.length-(a+n')) (by omega) (a+n') t rfl k9 x e n d he
    ·have h3:=WW (l:=(a,n',d')::t) dt _ _ _ _ rfl hc;rw[Ip h (λa2 n2 d2 t2 Ca=>by simp only[KL,fj]at Ca;rw[<-Ca.1.1];exact hc)]at hx;rcases fP.1 hx with e|e
     ·rw[e]at he;cases he
     ·exact ih (b.length-(i+1)) (by omega) (i+1) _ rfl h3 x e n d he
  ·rw[Sn (by omega)]at hx;cases hx
theorem qon (ll dl:LN) (h1:∀l∈ll,l<=15) (h2:∀l∈dl,l<=15) (T:List Tok) (hT:∀x∈T,∀n d,x = .mat n d->3<=n/\n<=258/\1<=d/\d<=32768):(bG ll dl T).length<=T.length*48:=
 RZ (gL ll dl) 48 T λx hx=>WH ll dl h1 h2 x (hT x hx)
theorem qpn (q:Nat) (b:LB) (a al:OA) (cap cl r:Nat) (l:List Mt) (a1 a2:OA) (c1 c2:Nat) (ll dl:LN) (told:Bool) (w:World)
  (hq:w.heap[q]?=some (.cells #[.iface 197 (.agg #[.slice a b.length cap,.slice al l.length cl,.slice a1 ll.length c1,.slice a2 dl.length c2,.bool told])] 247 (0,0)))
  (hb:Rd w a cap b) (hl:Cs w al (bS l)) (pM:l.length<=cl) (rG:al=none->cl=0) (nT:cl<=maxLen) (dt:dC b r 0 l) (hr:r<=32768) (iA:b.length<=1000000)
  (h1:Ri w a1 c1 ll) (h2:Ri w a2 c2 dl) (n1:286<=ll.length) (IP:ll.length<=400) (n2:30<=dl.length) (Dl:dl.length<=400) (nt:told=true->ll.length=286/\dl.length=30)
  (je:∀x∈ll,x<=15) (jd:∀x∈dl,x<=15) (cP:weight ll<=32768) (bL:weight dl<=32768)
  (fH:∀x∈af a,x<w.heap.size) (oN:∀x∈af al,x<w.heap.size) :
  Calls Tryz.prog 128 #[.slice (some ⟨q,0,none⟩) 1 1] w λe w'=>∃bb,fh ll dl (bE b 0 l) true told bb/\bb.length<=100000000/\aB w (bytesOf bb) e w':=by
 obtain⟨p,hp⟩:=ai w.heap.size;obtain⟨w1,ph⟩:∃w1,w1=w.alloc (.cells #[.slice none 0 0,.int .u64 0,.int .i64 0] 245):=⟨_,rfl⟩;have fL:=zev w;rw[<-ph,<-hp]at fL;have f1:Fr [] w w1:=by rw[ph];exact (Fr.refl [] w).alloc _
 obtain⟨w2,I6⟩:∃w2,w2=w1.alloc (.cells #[.slice none 0 0] 238):=⟨_,rfl⟩;have f2:Fr [] w1 w2:=by rw[I6];exact (Fr.refl [] w1).alloc _
 have f12:=f1.trans f2;have d0:=cell_of (f1.af hq (by simp)) 0;simp only[bF,aT]at d0;have Cd:=qw8 p [p] [] b a al cap cl r l a1 a2 c1 c2 ll dl told true w2 (hb.fr f12) (hl.fr f12 (by simp)) pM rG nT dt hr iA (h1.fr f12) (h2.fr f12) (y7 fL f2 (by simp)) n1 IP n2 Dl nt je jd cP bL (by decide)
  (λx hx=>by
   have e:x=p:=by simpa using hx
   have k1:=KW h1 (by omega) x
   have k2:=KW h2 (by omega) x
   have k3:=fH x
   have k4:=oN x
   have k5:=lt_of_block (bC w (.cells #[.slice none 0 0,.int .u64 0,.int .i64 0] 245))
   rw[<-ph,<-hp]at k5
   have:=f2.size
   exact⟨by omega,λh=>by have:=k1 h;omega,λh=>by have:=k2 h;omega,λh=>by have:=k3 h;omega,λh=>by have:=k4 h;omega⟩)
  (λx hx=>eW (fH x hx) f12.size) (λx hx=>eW (oN x hx) f12.size)
 have GO:∀bb,fh ll dl (bE b 0 l) true told bb->bb.length<=100000000:=by
  rintro bb ⟨hd,rfl,Ua,og⟩;have k1:=qon ll dl je jd (bE b 0 l) (VF hr _ 0 l rfl dt);have k2:=Nt b 0 l;have k3:=Bg ll je 256;have k4:hd.length<=20000:=by
   cases told with
   | false=>rw[Ua rfl];exact ep _
   | true=>obtain⟨nl,nd,nc,Mw,rs,ht⟩:=og rfl;exact qun ht (nt rfl).1 (nt rfl).2
  simp only[aA,bU,kg,ax];omega
 obtain⟨BL,j9⟩:=ai b.length;obtain⟨LL,oQ⟩:=ai l.length;obtain⟨m1,jt⟩:=ai ll.length;obtain⟨m2,iy⟩:=ai dl.length;rw[<-j9,<-oQ,<-jt,<-iy]at d0 Cd;have yp:∀w:World,(Instr.typeAssert (.iface 197 (.agg #[.slice a BL cap,.slice al LL cl,.slice a1 m1 c1,.slice a2 m2 c2,.bool told])) 247 238 true).run Tryz.prog w = .ok (.tuple #[.agg #[.slice none 0 0],.bool false]) w:=λ_=>by kernel_rfl
 have Gy:∀(f:Nat) (w:World),(method (f+1) 197 (.agg #[.slice a BL cap,.slice al LL cl,.slice a1 m1 c1,.slice a2 m2 c2,.bool told]) "stemma/deflate.write").run Tryz.prog w = .ok (242,.agg #[.slice a BL cap,.slice al LL cl,.slice a1 m1 c1,.slice a2 m2 c2,.bool told]) w:=λ_ _=>by kernel_rfl
 have H:=aQ Cd GO f1 f2 fL;have HW:=aw ph.symm I6.symm hp;clear hq hb hl pM rG nT dt hr iA h1 h2 n1 IP n2 Dl nt je jd cP bL fH oN Cd GO f1 f2 fL ph I6 hp f12 j9 oQ jt iy;go_enter Tryz.func128,Tryz.ntmps128;go_upto_block 0 with fail;rw[HW.o0,<-HW.l2];go_wp2;go_loopg [4,5,6,7,10] 1 (λk s4 s5 s6 s7 s10 wr=>∃(t:Nat) (F:LN) (bb:List Bool),s10 = .int .i64 (t:Nat)/\t+k=1/\(t=0->wr=w1)/\(t=1->fh ll dl (bE b 0 l) true told bb/\Wb wr p F bb/\Fr [] w wr));case atStart=>exact⟨0,[],[],rfl,rfl,λ_=>rfl,λh=>absurd h (by omega)⟩
 case round=>
  obtain⟨t,F,bb,rfl,cH,h0,h1⟩:=hrel;by_cases ht:t=0
  ·subst ht;obtain rfl:=h0 rfl;obtain rfl:gk=1:=by omega
   clear h0 h1 cH;go_upto_region 8 with fail;rw[HW.o1];go_wp2_with (go_at_call 242;refine H.o0.mono ?_;rintro e w3 ⟨rfl,f3,bb,lI,F3,ju,xm⟩;have H3:=aG f3 lI ju xm;clear f3 lI ju xm);go_roundg 0;case measure=>omega
   case rel=>
    refine⟨1,F3,bb,rfl,rfl,λh=>absurd h (by omega),λ_=>⟨H3.o1,by simpa using H3.o2,(H.o2.trans H.o3).step H3.o0 λy hy=>.inr ?_⟩⟩;have e:y=p:=by simpa using hy
    rw[e,HW.l2];exact ay _
  ·obtain rfl:t=1:=by omega
   obtain rfl:gk=0:=by omega
   obtain⟨lI,hW,hf⟩:=h1 rfl;have kA:=za9 p F bb wr hW (zaz lI) (by have:=H.o1 bb lI;omega);unfold aB at kA;have HB:=aw kA hf lI;clear kA hW hf lI h0 h1;go_wp2_with (go_at_call 155;refine HB.o0.mono ?_;rintro e KG ⟨a2',rfl,r2,Dl,f2'⟩);go_ret;refine⟨bb,HB.l2,H.o1 bb HB.l2,?_⟩;unfold aB;exact⟨a2',rfl,r2,λx hx=>⟨ck HB.o1.size (Dl x hx).1,(Dl x hx).2⟩,HB.o1.trans f2'⟩
end defl

end Go.Proofs.YtkmpfgpfbmeihaaGreatDoor