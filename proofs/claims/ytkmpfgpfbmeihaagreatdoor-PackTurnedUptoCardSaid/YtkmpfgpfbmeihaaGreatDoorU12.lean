/-
  Texts of this proof, one behind the other: Tell, Cwrite, Always, Wcoded.
-/
import Derived.Test.YtkmpfgpfbmeihaaGreatDoorU11
set_option maxHeartbeats 16000000
set_option maxRecDepth 100000
set_option linter.unusedVariables false
set_option linter.unusedSimpArgs false
namespace Go.Proofs.YtkmpfgpfbmeihaaGreatDoor
namespace defl
open Go Go.RowKit lib bm bl mat huf wb
def jf (cl:List Nat) (r:Rn):List Bool:=kA cl r.1++fD r.2.2 r.2.1
structure Told (ll dl:List Nat) (nl nd nc:Nat) (cl:List Nat) (rs:List Rn) (b:List Bool):Prop where
 enl:nl=mn ll 257 ll.length
 ennd:nd=mn dl 1 dl.length
 runs:cK [] rs (ll.take nl++dl.take nd)
 clen:cl.length=19
 cle:∀l∈cl,l<=7
 full:weight cl=32768
 used:∀r∈rs,0<ai cl r.1
 nc4:4<=nc
 nc19:nc<=19
 rest:∀i,nc<=i->i<19->ai cl (ord i)=0
 bits:b=fD 5 (nl-257)++fD 5 (nd-1)++fD 4 (nc-4)++((List.range nc).flatMap λi=>fD 3 (ai cl (ord i)))++rs.flatMap (jf cl)
theorem Kz:∀{rs:List Rn} {out fin:List Nat},cK out rs fin->∀r∈rs,r.1<=18/\r.2.1<128/\r.2.2<=7
 | [],_,_,_,r,hr=>by cases hr
 | x::rs,out,fin,h,r,hr=>by
  rcases gw.1 hr with e|e
  ·subst e;rcases h.1 with k|k|k|k<;>omega
  ·exact Kz h.2 r e
def du (F:Nat->Nat):List Nat:=(List.range 19).map F
theorem MP (F:Nat->Nat) {s:Nat} (h:s<19):ai (du F) s=F s:=by simp[ai,du,h]
def sT (rs:List Rn) (s:Nat):Nat:=(rs.map (·.1)).count s
theorem qwv (rs:List Rn) (s:Nat):sT rs s<=rs.length:=by have:=LX (a:=s) (l:=rs.map (·.1));rwa [cN]at this
theorem zaj (rs:List Rn) (r:Rn) (s:Nat):sT (rs++[r]) s=if s=r.1 then sT rs s+1 else sT rs s:=by
 unfold sT;rw[gB,Hc];by_cases h:s=r.1
 ·subst h;simp
 ·rw[if_neg h];simp[jg h]
theorem VB (cs:List Nat) (i:Nat):(aN cs i).length<=i:=by have:=DF (λs=>decide (0<ai cs s)) (List.range i);rwa [Aw]at this
theorem MU (cs:List Nat) (i:Nat):(aN cs (i+1)).length=(aN cs i).length+if 0<ai cs i then 1 else 0:=by rw[V3];split<;>simp
theorem ql1 {F G:Nat->Nat} {s:Nat} (hs:s<19) (h0:F s=0) (h1:0<G s) (h:∀j,j<19->j≠s->F j=G j):∀i,i<=19->(aN (du G) i).length=(aN (du F) i).length+if s<i then 1 else 0
 | 0,_=>by simp[aN]
 | i+1,hi=>by
  have ih:=ql1 hs h0 h1 h i (by omega);rw[MU,MU,ih,MP G (by omega),MP F (by omega)];by_cases e:i=s
  ·subst e;simp[h0,h1]
  ·have Jv:=h i (by omega) e;rw[Jv];by_cases e2:s<i
   ·have e3:s<i+1:=by omega
    simp only[e2,e3,if_true];omega
   ·have e3:¬s<i+1:=by omega
    simp only[e2,e3,if_false];omega
theorem qns {F:Nat->Nat}:∀i,i<=19->(∀j,j<i->0<F j)->(aN (du F) i).length=i
 | 0,_,_=>by simp[aN]
 | i+1,hi,h=>by rw[MU,qns i (by omega) λj hj=>h j (by omega),MP F (by omega),if_pos (h i (by omega))]
theorem ql2 (cs:List Nat):∀k i,(aN cs i).length<=(aN cs (i+k)).length
 | 0,i=>aw _
 | k+1,i=>by rw[<-uy,MU];have:=ql2 cs k i;omega
theorem qpq {w w':World} {e:TypeId} {size:Nat} {ao:Option Addr} {len cap:Nat} {xs:List Value} (h:aW w w' e size [] ao len cap xs):Made w w' e size ao len cap xs:=
 ⟨h.own,h.fr,λx hx=>(h.at_ x hx).elim (λk=>absurd k (by simp)) (λk=>Nat.le_of_eq k.symm),h.le,h.max,h.nil⟩
theorem yq (f:Nat->List Bool) (hf:∀i,(f i).length=3):∀t,((List.range t).flatMap f).length=t*3
 | 0=>rfl
 | t+1=>by rw[Kg,Hu,aK,yq f hf t];simp only[Av,List.flatMap_nil,nF,hf t];omega
theorem QT {α:Type} (f:α->List Bool) (C:Nat):∀l:List α,(∀x∈l,(f x).length<=C)->(l.flatMap f).length<=l.length*C
 | [],_=>by simp
 | x::l,h=>by
  have h1:=QT f C l λy hy=>h y (DH _ hy)
  have h2:=h x Hw;simp only[Av,aK,cQ,rC];omega
structure TE (O g8 g9:Nat) (ao:Option Addr) (rn cp:Nat) (cl:List Nat) (rs:List Rn) (w:World):Prop where
 o:w.heap[O]?=some (.cells (pP.map λx=>Value.int .i64 (x:Nat)).toArray 287 (0,0))
 r:Ri w (some ⟨g8,0,none⟩) 19 cl
 u:Zl w g9 (cV cl)
 row:w.ownsRow 0 344 3 (.slice ao rn cp) rn (cY rs)
theorem TE.fr {O g8 g9:Nat} {ao:Option Addr} {rn cp:Nat} {cl:List Nat} {rs:List Rn} {w w':World} {S:List Nat} (h:TE O g8 g9 ao rn cp cl rs w) (f:Fr S w w') (hn:∀x∈[O,g8,g9]++ae ao,x∉S):TE O g8 g9 ao rn cp cl rs w':=
 ⟨f.ae h.o (hn O (by simp)),Cp h.r f (λx hx=>hn x (by simp only[jy];left;simp[ae]at hx;simp[hx])),Cs.fr h.u f (λx hx=>hn x (by simp only[jy];left;simp[ae]at hx;simp[hx])),
  dr h.row f (λk hk=>hn k (by
   simp only[jy];right
   cases ao with
   | none=>cases hk
   | some ad=>simp only[Value.ownBlock,eS]at hk;subst hk;simp[ae]))⟩
theorem TE.ord {O g8 g9:Nat} {ao:Option Addr} {rn cp:Nat} {cl:List Nat} {rs:List Rn} {w:World} (h:TE O g8 g9 ao rn cp cl rs w) {i:Nat} (hi:i<19):w.cell? ⟨O,i,none⟩=some (.int .i64 (ord i:Nat)):=by
 rw[cell_of h.o];have hl:i<pP.length:=by simp[pP];omega
 simp[defl.ord,bO hl]
theorem TE.len {O g8 g9:Nat} {ao:Option Addr} {rn cp:Nat} {cl:List Nat} {rs:List Rn} {w:World} (h:TE O g8 g9 ao rn cp cl rs w) {i:Nat} (hi:i<cl.length):w.cell? ⟨g8,i,none⟩=some (.int .i64 (ai cl i:Nat)):=by obtain⟨g,o,e,hc⟩:=h.r.at hi;simp only[eS,qU,and_true]at e;obtain⟨rfl,rfl⟩:=e;rw[fM]at hc;rw[hc,ai,bO hi];rfl
theorem TE.code {O g8 g9:Nat} {ao:Option Addr} {rn cp:Nat} {cl:List Nat} {rs:List Rn} {w:World} (h:TE O g8 g9 ao rn cp cl rs w) {i:Nat} (hi:i<cl.length):w.cell? ⟨g9,i,none⟩=some (.int .u32 (df cl i:Nat)):=by obtain⟨g',o',e',Jh⟩:=h.u.at (by simp[cV];omega);simp only[eS,qU,and_true]at e';obtain⟨rfl,rfl⟩:=e';have:=Jh i (.int .u32 (df cl i:Nat)) (by rw[j5,VE hi];rfl);simpa using this
theorem qz4 (p:Nat) (F:List Nat) (l:List Bool) (bV lV:Value) (a1 a2:Option Addr) (c1 c2:Nat) (ll dl:List Nat) (told:Bool) (w:World) (fx:bV.oneCell'=true) (ku:lV.oneCell'=true)
  (h1:Ri w a1 c1 ll) (h2:Ri w a2 c2 dl) (hW:Wb w p F l) (n1:ll.length=286) (n2:dl.length=30) (nM:∀x∈ll,x<=15) (lU:∀x∈dl,x<=15) (hL:l.length<=562949953000000)
  (hF:∀x∈F,x<w.heap.size/\x∉ae a1/\x∉ae a2) :
  Calls Tryz.prog 244 #[.agg #[bV,lV,.slice a1 286 c1,.slice a2 30 c2,.bool told],.pointer (some ⟨p,0,none⟩)] w λe w'=>e = .returned (.tuple #[])/\Fr F w w'/\
   ∃nl nd nc cl rs b,Told ll dl nl nd nc cl rs b/\∃F',Wb w' p F' (l++b)/\∀y∈F',y∈F\/w.heap.size<=y:=by
 obtain⟨B,hB⟩:=ah w.heap.size;obtain⟨w1,cD⟩:=ah (w.alloc (.cells #[bV,lV,.slice a1 286 c1,.slice a2 30 c2,.bool told] 197 (0,0)));have f1:Fr [] w w1:=by rw[cD];exact (Fr.refl [] w).alloc _
 have iz:w1.heap[B]?=some (.cells #[bV,lV,.slice a1 286 c1,.slice a2 30 c2,.bool told] 197 (0,0)):=by rw[cD,hB];exact bx w _
 have cL:=qyu a1 c1 ll 257 w1.drew (h1.fr (f1.trans (Fr.av [] w1))) (by omega) (by decide);have ky:=qyu a2 c2 dl 1 w1.drew (h2.fr (f1.trans (Fr.av [] w1))) (by omega) (by decide);obtain⟨nl,tq⟩:=ah (mn ll 257 ll.length);obtain⟨nd,Eg⟩:=ah (mn dl 1 dl.length);rw[<-tq,n1]at cL;rw[<-Eg,n2]at ky;have oC:Calls Tryz.prog 248 #[.slice a1 286 c1,.int .i64 257] w1.drew λe w'=>e = .returned (.slice a1 nl c1)/\w'=w1.drew:=cL
 have dM:Calls Tryz.prog 248 #[.slice a2 30 c2,.int .i64 1] w1.drew λe w'=>e = .returned (.slice a2 nd c2)/\w'=w1.drew:=ky
 have zaW:257<=nl:=by rw[tq];exact Ue _ _ _ (by omega)
 have zaV:nl<=286:=by rw[tq,<-n1];exact Mb _ _ _
 have zaY:1<=nd:=by rw[Eg];exact Ue _ _ _ (by omega)
 have zaX:nd<=30:=by rw[Eg,<-n2];exact Mb _ _ _
 have e2:=cell_of iz 2;have e3:=cell_of iz 3;simp only[bw,aV,bN]at e2 e3;have H:=oG h1 h2 hW n1 n2 nM lU hL hF;have HC:=ak oC dM;have HN:=aF tq Eg f1 hB;have HW:=af cD.symm;clear h1 h2 hW n1 n2 nM lU hL hF cL ky oC dM tq Eg f1 cD iz;go_enter Tryz.func244,Tryz.ntmps244;go_upto_region 1 with fail;rw[HW.out,<-HN.l3];clear hB;refine uw 6 (by kernel_rfl) (by kernel_rfl) ?_;simp only[uj];iterate 3 (go_big_quiet_step (exact HC.o0 _))
 iterate 3 (go_big_quiet_step (exact HC.l1 _))
 refine wpQuiet_nil ?_;clear e2 e3;obtain⟨Z,hz,hZ,mk⟩:=Vb 19 (by decide);have Wx:∀w:World,(Instr.makeSlice 28 (.int .i64 19) (.int .i64 19)).run Tryz.prog w = .ok (.slice (some ⟨w.heap.size,0,none⟩) 19 19) (w.alloc (.cells Z 3)):=mk;clear mk;have HZ:=ak hz hZ;clear hz hZ;have r1:=Ri.take (H.o0.fr (HN.o2.trans (Fr.av [] w1))) nl;have r2:=Ri.take (H.o1.fr (HN.o2.trans (Fr.av [] w1))) nd;have Z6:(ll.take nl).length=nl:=by rw[eJ,H.o3];omega
 have Z5:(dl.take nd).length=nd:=by rw[eJ,H.o4];omega
 have HT:=aF r1 r2 Z6 Z5;clear r1 r2 Z6 Z5;go_upto_region 2 with fail;go_upto_region 3 with (first
  | (refine iq oX rfl _ _ rfl (.slice none 0 0) 0 [] [] rfl rfl (Made.none _ _ _).own a1 nl c1 (ints (ll.take nl)) rfl (by have:=HT.o0.le;have:=HT.o2;omega) HT.o0.nil HT.o0.cs (by rw[MI,HT.o2,qV]) (Re _) (by omega) (by unfold maxLen;omega) ?_;intro cX fP w2 bI;rw[fM,vI]at bI;rw[fM];have HA:=af (qpq bI);clear bI)
  | (refine iq oX rfl _ _ rfl (.slice cX nl fP) nl (ints (ll.take nl)) (ae cX) rfl (dw cX nl fP) HA.out.own a2 nd c2 (ints (dl.take nd)) rfl (by have:=HT.o1.le;have:=HT.l3;omega) HT.o1.nil (HT.o1.fr HA.out.fr).cs (by rw[MI,HT.l3,qV]) (Re _) (by omega) (by unfold maxLen;omega) ?_;intro vB zt w3 bI;have Qv:=af (HA.out.app bI);clear bI)
  | (go_at_call 249;have jD:=zaf vB zt (ll.take nl++dl.take nd) w3 (QX (by have h3:=Qv.out;rwa [show ints (ll.take nl)++ints (dl.take nd)=ints (ll.take nl++dl.take nd) from by simp[ints]]at h3) (by rw[aK,HT.o2,HT.l3])) (by rw[aK,HT.o2,HT.l3];omega) (λx hx=>(jy.1 hx).elim (λk=>H.o5 x (xF k)) (λk=>H.o6 x (xF k)));rw[aK,HT.o2,HT.l3]at jD;refine jD.mono ?_;rintro e w4 ⟨Qb,rn,cp4,rs,rfl,jE,El,jz⟩;have HR:=au jE El jz;clear jE El jz jD))
 have Qn:Hid (Fr [] w w4):=af ((HN.o2.trans (Fr.av [] w1)).trans (Qv.out.fr.trans HR.out.2.1.fr));obtain⟨Q,hQ⟩:=ah w4.heap.size;obtain⟨w5,mR⟩:=ah (w4.alloc (.cells Z 3));have HQ:Hid (Ow w5 Q 19 (λ_=>0)/\Fr [] w4 w5):=af ⟨⟨Z,by rw[mR,hQ];exact bx w4 _,HZ.o0,HZ.l1⟩,by rw[mR];exact (Fr.refl [] w4).alloc _⟩;have D8:rn<=400:=by have:=HR.out.2.2.len;rw[aK,HT.o2,HT.l3,<-HR.out.1]at this;simp at this;omega
 have JX:=ak hQ mR;clear hQ mR;go_upto_region 4 with fail;rw[<-JX.l1,<-JX.o0];clear Wx;go_wp2;go_loopg [9,38] rn (λk s9 s38 wr=>∃t:Nat,s38 = .int .i64 (t:Nat)/\t+k=rn/\Ow wr Q 19 (sT (rs.take t))/\Fr [Q] w5 wr);case atStart=>exact⟨0,rfl,by omega,HQ.o0.congr λs _=>by simp[sT],.refl _ _⟩
 case round=>
  obtain⟨t,rfl,bF,how,hf⟩:=hrel;by_cases ht:t<rn
  ·obtain⟨k,rfl⟩:∃k,gk=k+1:=⟨gk-1,by omega⟩;obtain⟨g4,rfl,_,_⟩:=Hn HR.out.2.1.own (by omega);obtain⟨r,hr⟩:∃r,rs[t]?=some r:=⟨_,bO (by rw[<-HR.out.1];exact ht)⟩;have Xa:=(Kz HR.out.2.2 r (iC hr)).1;have Ll:g4≠Q:=by have:=HR.out.2.1.lt g4 (by simp[ae]);rw[JX.o0];omega
   have dI:=dr (dr HR.out.2.1.own HQ.l1 (by simp)) hf (by simpa[Value.ownBlock] using Ll);have hd:=Vi rs t r hr;obtain⟨xB,QC,QB⟩:=r;simp only at Xa hd;have d0:wr.cell? ⟨g4,t*3,none⟩=some (.int .i64 xB):=by rw[<-hd.1];exact xE dI _ (by omega)
   have d1:wr.cell? ⟨g4,t*3+1,none⟩=some (.int .u32 QC):=by rw[<-hd.2.1];exact xE dI _ (by omega)
   have d2:wr.cell? ⟨g4,t*3+2,none⟩=some (.int .i64 QB):=by rw[<-hd.2.2];exact xE dI _ (by omega)
   have fA:Fr [] wr (wr.alloc (.cells #[.int .i64 xB,.int .u32 QC,.int .i64 QB] 344 (0,0))):=(Fr.refl [] wr).alloc _;have d3:=(how.fr fA (by simp)).cell (show xB<19 by omega);have z3:=(how.fr fA (by simp)).frozen xB;obtain⟨G,hG⟩:=ah (sT (rs.take t) xB);have hGb:G<=1000:=by rw[hG];have:=qwv (rs.take t) xB;rw[eJ]at this;omega
   rw[<-hG]at d3;have bX:=(how.fr fA (by simp)).set (show xB<19 by omega) (G+1);have fS:Fr [Q] w5 ((wr.alloc (.cells #[.int .i64 xB,.int .u32 QC,.int .i64 QB] 344 (0,0))).setCell ⟨Q,xB,none⟩ (.int .i64 ((G+1:Nat):Nat))):=(hf.alloc _).setCell (by simp) _;have iI:rs.take (t+1)=rs.take t++[(xB,QC,QB)]:=by rw[zG,hr];rfl
   have HJ:=aP bX fS hG iI bF;clear how hf hr dI hd fA bX fS hG iI bF;go_wp2;go_roundg k;case measure=>omega
   case rel=>
    obtain⟨bX,fS,hG,iI,bF⟩:=HJ.out;refine⟨t+1,by go_num,by omega,?_,fS⟩;rw[iI];refine bX.congr λs _=>?_
    rw[zaj,hG];by_cases e:s=xB
    ·rw[if_pos e,if_pos e,e]
    ·rw[if_neg e,if_neg e]
  ·obtain rfl:t=rn:=by omega
   rw[oI (by rw[<-HR.out.1];exact aw _)]at how;obtain⟨w6,pg⟩:∃w6:World,w6=wr:=⟨_,rfl⟩;rw[<-pg]at how hf ⊢;obtain⟨F0,S5⟩:=ah (sT rs);rw[<-S5]at how;have vk:∀s,F0 s<=400:=λs=>by rw[S5];have:=qwv rs s;rw[<-HR.out.1]at this;omega
   have H6:=aF how hf vk S5;clear how hf bF pg vk S5;go_wp2;go_loopg [10,12,52] 19 (λk s10 s12 s52 wz=>∃t m:Nat,s52 = .int .i64 (t:Nat)/\s10 = .int .i64 (m:Nat)/\t+k=19/\m=(aN (du F0) t).length/\w6=wz);case atStart=>exact⟨0,0,rfl,rfl,rfl,rfl,rfl⟩
   case round=>
    obtain⟨t2,m,rfl,rfl,bF,hm,rfl⟩:=hrel;have jq:m<=t2:=by rw[hm];exact VB _ _
    by_cases ht:t2<19
    ·obtain⟨k,rfl⟩:∃k,gk=k+1:=⟨gk-1,by omega⟩;have d3:=H6.o0.cell ht;have hb:=H6.o2 t2;obtain⟨v,hv⟩:=ah (F0 t2);rw[<-hv]at d3 hb;have WV:=MU (du F0) t2;rw[MP F0 ht,<-hv,<-hm]at WV;have HJ:=ak WV bF;clear WV bF hm hv;by_cases uM:0<v
     ·go_wp2;go_roundg k;case measure=>omega
      case rel=>exact⟨t2+1,m+1,by go_num,by go_num,by have:=HJ.out.2;omega,by rw[HJ.out.1,if_pos uM],rfl⟩
     ·obtain rfl:v=0:=by omega
      go_wp2;go_roundg k;case measure=>omega
      case rel=>exact⟨t2+1,m,by go_num,rfl,by have:=HJ.out.2;omega,by rw[HJ.out.1];simp,rfl⟩
    ·obtain rfl:t2=19:=by omega
     have HM:=af hm;clear hm bF ht;go_wp2;go_loopg [10,13] 19 (λk s10 s13 wz=>∃(i m:Nat) (Fc:Nat->Nat),s13 = .int .i64 (i:Nat)/\s10 = .int .i64 (m:Nat)/\i+k=19/\m=(aN (du Fc) 19).length/\Ow wz Q 19 Fc/\(∀s,s<19->Fc s<=400)/\(∀s,0<F0 s->0<Fc s)/\(∀j,j<i->0<Fc j)/\Fr [Q] w6 wz);case atStart=>exact⟨0,m,F0,rfl,rfl,rfl,HM.out,H6.o0,λs _=>H6.o2 s,λ_ h=>h,λj hj=>absurd hj (by omega),.refl _ _⟩
     case round=>
      obtain⟨i,m,Fc,rfl,rfl,bU,hm,how,vk,jo,aE,hf⟩:=hrel;have jq:m<=19:=by rw[hm];exact VB _ _
      by_cases hU:m<2
      ·have hi2:i<2:=by
        have h1:=qns (F:=Fc) (min i 19) (by omega) λj hj=>aE j (by omega)
        have h2:=ql2 (du Fc) (19-min i 19) (min i 19);rw[show min i 19+(19-min i 19)=19 from by omega,<-hm,h1]at h2;omega
       obtain⟨k,rfl⟩:∃k,gk=k+1:=⟨gk-1,by omega⟩;have rL:i<19:=by omega
       have d3:=how.cell rL;have z3:=how.frozen i;have hb:=vk i rL;obtain⟨v,hv⟩:=ah (Fc i);rw[<-hv]at d3 hb;by_cases uM:v=0
       ·subst uM;have bX:=how.set rL 1;have HJ:=lJ bX bU hm vk jo aE hf hv;clear bX bU hm vk jo aE hf hv how;go_wp2;go_roundg k;case measure=>omega
        case rel=>
         obtain⟨bX,bU,hm,vk,jo,aE,hf,hv⟩:=HJ.out;refine⟨i+1,m+1,_,by go_num,by go_num,by omega,?_,bX,λs hs=>?_,λs hs=>?_,λj hj=>?_,hf.setCell (by simp) _⟩
         ·rw[ql1 (F:=Fc) (s:=i) rL hv.symm (by simp) (λj _ hj=>by simp[hj]) 19 (aw _),if_pos rL,hm]
         ·split
          ·omega
          ·exact vk s hs
         ·split
          ·omega
          ·exact jo s hs
         ·split
          ·omega
          ·exact aE j (by omega)
       ·have q:((v:Int)==0)=false:=by simp only[beq_eq_false_iff_ne];omega
        have HJ:=lJ how bU hm vk jo aE hf hv;clear how bU hm vk jo aE hf hv;go_wp2;go_roundg k;case measure=>omega
        case rel=>
         obtain⟨how,bU,hm,vk,jo,aE,hf,hv⟩:=HJ.out;refine⟨i+1,m,Fc,by go_num,rfl,by omega,hm,how,vk,jo,λj hj=>?_,hf⟩;rcases og j i with k1|k1
         ·exact aE j k1
         ·rw[show j=i from by omega,<-hv];omega
      ·have tl:(du Fc).length=19:=by simp[du]
       have kI:∀c∈du Fc,c<=2^30:=λc hc=>by simp only[du,jR,xD]at hc;obtain⟨s,hs,rfl⟩:=hc;have:=vk s hs;omega
       have eY:Ri wr (some ⟨Q,0,none⟩) 19 (du Fc):=⟨how.cs,by rw[tl];exact aw _,by unfold maxLen;omega,λh=>by cases h⟩;have hlen:=MJ (some ⟨Q,0,none⟩) 19 (du Fc) 7 wr eY (by decide) (by decide) (by rw[tl];decide) kI (by rw[tl];have:=VB (du Fc) 19;omega);rw[tl]at hlen;have Bj:Calls Tryz.prog 130 #[.slice (some ⟨Q,0,none⟩) 19 19,.int .i64 7] wr (ik 7 (du Fc) 19 wr):=hlen;have HJ:=aF Bj (show 2<=(aN (du Fc) (du Fc).length).length by rw[tl];omega) jo hf;clear hlen Bj eY kI hm jo aE hf how vk bU tl;go_upto_region 23 with (go_at_call 130;refine HJ.out.1.mono ?_;rintro e w8 ⟨g8,cl,rfl,ok8,cs8,lo8,hi8,f8⟩;have H8:=aP ok8 cs8 lo8 hi8 f8;clear ok8 cs8 lo8 hi8 f8);have qB:cl.length=19:=by rw[H8.o0.len];simp[du]
       have lG:=H8.o0.full HJ.out.2.1;have Iz:Ri w8 (some ⟨g8,0,none⟩) 19 cl:=⟨H8.o1,by rw[qB];exact aw _,by unfold maxLen;omega,λh=>by cases h⟩;have zS:=Rr (some ⟨g8,0,none⟩) 19 cl w8 Iz (λx hx=>by have:=H8.o0.le x hx;omega) (by rw[qB];decide) (by rw[lG];exact aw _);unfold gT at zS;rw[qB]at zS;have LH:=aF zS Iz qB lG;clear zS Iz qB lG;go_upto_region 24 with (go_at_call 205;refine LH.o0.mono ?_;rintro e w9 ⟨g9,rfl,u9,M8,hi9,f9⟩;have H9:=aF u9 M8 hi9 f9;clear u9 M8 hi9 f9);go_cut [18,85] from 85 to 86 (λs18 s85 wz=>∃O:Nat,s18 = .pointer (some ⟨O,0,none⟩)/\wz.heap[O]?=some (.cells (pP.map λx=>Value.int .i64 (x:Nat)).toArray 287 (0,0))/\Fr [] w9 wz/\w9.heap.size<=O)
       case first=>
        clear H6 HJ H8 LH H9 HR HM HQ HT HA Qv Qn JX HC HN HW H HZ;have XM:(Tryz.prog.info? 287).map (·.size)=some 19:=by kernel_rfl
        go_wp2_with (refine wpList_store_row rfl 287 (.tmp 18) (.tmp 85) rfl w9.heap.size #[.int .i64 16,.int .i64 17,.int .i64 18,.int .i64 0,.int .i64 8,.int .i64 7,.int .i64 9,.int .i64 6,.int .i64 10,.int .i64 5,.int .i64 11,.int .i64 4,.int .i64 12,.int .i64 3,.int .i64 13,.int .i64 2,.int .i64 14,.int .i64 1,.int .i64 15] rfl rfl 287 #[.int .i64 0,.int .i64 0,.int .i64 0,.int .i64 0,.int .i64 0,.int .i64 0,.int .i64 0,.int .i64 0,.int .i64 0,.int .i64 0,.int .i64 0,.int .i64 0,.int .i64 0,.int .i64 0,.int .i64 0,.int .i64 0,.int .i64 0,.int .i64 0,.int .i64 0] (heap_alloc_last w9 _) XM rfl (by kernel_rfl) ?_;rw[World.setRow_alloc_new]);simp only[Act.put];go_meet;exact⟨w9.heap.size,rfl,bx w9 _,(Fr.refl [] w9).alloc _,aw _⟩
       case rest=>
       obtain⟨O,rfl,hO,f10,hO9⟩:=hcut;obtain⟨nu,Nx⟩:∃nu:World,nu=wc:=⟨_,rfl⟩;rw[<-Nx]at hO f10 ⊢;clear Nx;have qB:=LH.o2;have Ta:Fr [Q] w4 w8:=((HQ.l1.mono (by simp)).trans (H6.o1.trans HJ.out.2.2.2)).trans (H8.l4.mono (by simp));have EL:Fr [] w8 nu:=H9.l3.trans f10;have te:TE O g8 g9 Qb t cp4 cl rs nu:=by
        refine⟨hO,LH.o1.fr EL,Cs.fr H9.o0 f10 (by simp),dr (dr HR.out.2.1.own Ta ?_) EL (by simp)⟩;intro k hk;have hb:k∈ae Qb:=by
         cases Qb with
         | none=>cases hk
         | some ad=>simp only[Value.ownBlock,eS]at hk;subst hk;simp[ae]
        have:=HR.out.2.1.lt k hb;rw[<-JX.o0]at this;simp;omega
       have JC:Fr [] w nu:=(Qn.out.step Ta (λx hx=>.inr (by simp at hx;rw[hx,JX.o0];exact Qn.out.size))).trans EL;have YJ:∀x∈[O,g8,g9]++ae Qb,w.heap.size<=x/\x<nu.heap.size:=by
        intro x hx;have h8:=H8.o2;have h8':=H8.o3;have h9:=H9.o1;have h9':=H9.o2;have s10:=f10.size;have s9:=H9.l3.size;have s4:=Qn.out.size;have s8:=Ta.size;have s68:=(HJ.out.2.2.2.trans (H8.l4.mono (by simp))).size;have s46:=((HQ.l1.mono (T:=[Q]) (by simp)).trans H6.o1).size;have sw7:=HJ.out.2.2.2.size;simp only[jy,gw,v7,or_false]at hx;rcases hx with (rfl|rfl|rfl)|hx
        ·have:=lt_of_block hO;omega
        ·omega
        ·omega
        ·have h1:=HR.out.2.1.lt x hx;have h2:=HR.out.2.1.new x hx;have h3:=(((HN.o2.trans (Fr.av [] w1)).trans Qv.out.fr)).size;omega
       have HE:=au te JC YJ;have Dg:Hid (Told ll dl nl nd 19 cl rs (fD 5 (nl-257)++fD 5 (nd-1)++fD 4 (19-4)++((List.range 19).flatMap λi=>fD 3 (ai cl (ord i)))++rs.flatMap (jf cl))):=af (by
        refine⟨HN.o0,HN.o1,HR.out.2.2,qB,H8.o0.le,LH.l3,λr hr=>?_,by decide,aw _,λi h1 h2=>absurd h1 (by omega),rfl⟩
        have zaS:=(Kz HR.out.2.2 r hr).1
        have h0:0<F0 r.1:=by
         rw[H6.l3]
         exact List.count_pos_iff.2 (yQ hr)
        have h1:=HJ.out.2.2.1 r.1 h0
        exact H8.o0.pos r.1 (by rw[MP Fc (by omega)];exact h1))
       have HRN:Hid (t=rs.length):=af HR.out.1;have HF0:=af H.l8;have HWb:Hid (Wb nu p F l):=af (yH H.o2 JC (by simp));have EU:=af H.o7;clear te JC YJ Ta EL hO f10 hO9 H6 HJ H8 LH H9 HR HM HQ HT HA Qv Qn JX HC HN HW H HZ;go_wp2;go_loopg [19] 15 (λk s19 wz=>∃nc:Nat,s19 = .int .i64 (nc:Nat)/\nc=k+4/\nc<=19/\(∀i,nc<=i->i<19->ai cl (ord i)=0)/\nu=wz);case atStart=>exact⟨19,rfl,rfl,aw _,λi h1 h2=>absurd h1 (by omega),rfl⟩
       case round=>
        obtain⟨nc,rfl,N0,N8,oq,rfl⟩:=hrel;have key:(4<nc/\ai cl (ord (nc-1))=0)\/(4<nc/\ai cl (ord (nc-1))≠0)\/nc=4:=by omega
        rcases key with⟨h4,hv⟩|pU
        ·obtain⟨q,hq⟩:=ah (nc-1);have e1:(nc:Int)-1=(q:Int):=by omega
         rw[<-hq]at hv;have d1:=HE.o0.ord (show q<19 by omega);have gD:=QK q;obtain⟨y,hy⟩:=ah (ord q);rw[<-hy]at d1 gD hv;have d2:=HE.o0.len (show y<cl.length by omega);rw[hv]at d2;have Xg:q<19:=by omega
         have HJ:=aP hq hy hv oq N0;clear hq hy hv oq N0;go_wp2;go_roundg (gk-1);case measure=>have:=HJ.out.2.2.2.2;omega
         case rel=>
          obtain⟨hq,hy,hv,oq,N0⟩:=HJ.out;refine⟨q,by go_num,by omega,by omega,λi h1 h2=>?_,rfl⟩;rcases og i nc with k1|k1
          ·rw[show i=q from by omega,<-hy];exact hv
          ·exact oq i k1 h2
        ·have HNC:Hid (4<=nc/\∀i,nc<=i->i<19->ai cl (ord i)=0):=af ⟨by omega,oq⟩;have zaZ:4<=nc:=by omega
         clear oq;have XG:(4<nc->ai cl (ord (nc-1))≠0):=by omega
         have Tk:=af XG;clear pU XG N0;go_upto_region 26 with fail;go_cut [97] from 86 to 98 (λs97 wz=>s97 = .bool false/\nu=wz)
         case first=>
          by_cases h4:4<nc
          ·obtain⟨q,hq⟩:=ah (nc-1);have e1:(nc:Int)-1=(q:Int):=by omega
           have hv:=Tk.out h4;rw[<-hq]at hv;have d1:=HE.o0.ord (show q<19 by omega);have gD:=QK q;obtain⟨y,hy⟩:=ah (ord q);rw[<-hy]at d1 gD hv;have d2:=HE.o0.len (show y<cl.length by omega);obtain⟨v,zN⟩:=ah (ai cl y);rw[<-zN]at d2 hv;have Xg:q<19:=by omega
           have q1:((v:Int)==0)=false:=by simp only[beq_eq_false_iff_ne];omega
           clear hq hy zN;go_wp2;go_meet;exact⟨rfl,rfl⟩
          ·obtain rfl:nc=4:=by omega
           go_wp2;go_meet;exact⟨rfl,rfl⟩
         case rest=>
         obtain⟨rfl,rfl⟩:=hcut;have hEF:∀x∈[O,g8,g9]++ae Qb,x∉F:=λx hx y6=>by have h1:=(HE.l2 x hx).1;have h2:=(HF0.out x y6).1;omega
         have HEF:=af hEF;clear hEF;obtain⟨k1,x5⟩:=ah (nl-257);obtain⟨k2,rq⟩:=ah (nd-1);obtain⟨k3,wV⟩:=ah (nc-4);have e1:(nl:Int)-257=(k1:Int):=by omega
         have e2:(nd:Int)-1=(k2:Int):=by omega
         have e3:(nc:Int)-4=(k3:Int):=by omega
         have b1:k1<=100:=by omega
         have b2:k2<=100:=by omega
         have b3:k3<=100:=by omega
         have HK:=au x5 rq wV;clear x5 rq wV;have xV:Calls Tryz.prog 247 #[.pointer (some ⟨p,0,none⟩),.int .u32 k1,.int .i64 5] nu (cJ p F nu (l++fD 5 k1)):=G2 p F l k1 5 nu HWb.out (by omega) (by decide) (by have:=EU.out;omega);have HP1:=af xV;clear xV;go_upto_region 29 with (go_at_call 247;refine HP1.out.mono ?_;rintro e vG ⟨rfl,f11,g11⟩;have zY:=af (Pg.step (Pg.start HWb.out) f11 g11);clear f11 g11);obtain⟨F11,IE⟩:=zY.out;have mD:Calls Tryz.prog 247 #[.pointer (some ⟨p,0,none⟩),.int .u32 k2,.int .i64 5] vG (cJ p F11 vG ((l++fD 5 k1)++fD 5 k2)):=G2 p F11 _ k2 5 vG IE.wb (by omega) (by decide) (by rw[aK,aH];have:=EU.out;omega);have mG:=af mD;have Zq:=af IE;clear mD IE;go_upto_region 30 with (go_at_call 247;refine mG.out.mono ?_;rintro e gi ⟨rfl,f12,g12⟩;have lu:=af (Pg.step Zq.out f12 g12);clear f12 g12);obtain⟨F12,IC⟩:=lu.out;have zQ:Calls Tryz.prog 247 #[.pointer (some ⟨p,0,none⟩),.int .u32 k3,.int .i64 4] gi (cJ p F12 gi (((l++fD 5 k1)++fD 5 k2)++fD 4 k3)):=G2 p F12 _ k3 4 gi IC.wb (by omega) (by decide) (by rw[aK,aK,aH,aH];have:=EU.out;omega);have Ci:=af zQ;have Zp:=af IC;clear zQ IC;go_upto_region 31 with (go_at_call 247;refine Ci.out.mono ?_;rintro e je ⟨rfl,f13,g13⟩;have qN:=af (Pg.step Zp.out f13 g13);clear f13 g13);obtain⟨F13,IB⟩:=qN.out;obtain⟨L3,S4⟩:=ah (((l++fD 5 k1)++fD 5 k2)++fD 4 k3);rw[<-S4]at IB;have Pp:L3.length=l.length+14:=by rw[S4];simp only[aK,aH]
         have ET:=au IB S4 Pp;have hsl:=qp3 O nc N8;clear IB S4 Pp e1 e2 e3;go_wp2;go_loopg [21,120] nc (λk s21 s120 wz=>∃(t:Nat) (F':List Nat),s120 = .int .i64 (t:Nat)/\t+k=nc/\Pg p F nu (L3++(List.range t).flatMap λi=>fD 3 (ai cl (ord i))) F' wz);case atStart=>exact⟨0,F13,rfl,by omega,by simpa using ET.o0⟩
         case round=>
          obtain⟨t2,F',rfl,bF,pY⟩:=hrel;by_cases ht:t2<nc
          ·obtain⟨k,rfl⟩:∃k,gk=k+1:=⟨gk-1,by omega⟩;have te:=HE.o0.fr pY.fr HEF.out;have d1:=te.ord (show t2<19 by omega);have gD:=QK t2;obtain⟨y,hy⟩:=ah (ord t2);rw[<-hy]at d1 gD;have d2:=te.len (show y<cl.length by omega);obtain⟨v,zN⟩:=ah (ai cl y);have hv7:v<=7:=by rw[zN];exact Dg.out.cle _ (KE (by omega))
           rw[<-zN]at d2;have sA:((List.range t2).flatMap λi=>fD 3 (ai cl (ord i))).length=t2*3:=yq _ (λi=>aH _ _) t2;have pX:Calls Tryz.prog 247 #[.pointer (some ⟨p,0,none⟩),.int .u32 v,.int .i64 3] wr (cJ p F' wr ((L3++(List.range t2).flatMap λi=>fD 3 (ai cl (ord i)))++fD 3 v)):=G2 p F' _ v 3 wr pY.wb (by omega) (by decide) (by rw[aK,sA,ET.l2];have:=EU.out;omega);have HJ:=aP pX pY hy zN bF;clear pX pY hy zN bF te sA;go_wp2_with (go_at_call 247;refine HJ.out.1.mono ?_;rintro e yC ⟨rfl,f14,g14⟩;have EW:=af (Pg.step HJ.out.2.1 f14 g14);clear f14 g14);go_roundg k;case measure=>omega
           case rel=>obtain⟨F14,PI⟩:=EW.out;obtain⟨_,_,hy,zN,bF⟩:=HJ.out;refine⟨t2+1,F14,by go_num,by omega,?_⟩;rw[Kg,Hu,<-gH];simp only[Av,List.flatMap_nil,nF];rw[<-hy,<-zN];exact PI
          ·obtain rfl:t2=nc:=by omega
           obtain⟨L4,S3⟩:=ah (L3++(List.range t2).flatMap λi=>fD 3 (ai cl (ord i)));rw[<-S3]at pY;have Po:L4.length<=l.length+100:=by rw[S3,aK,yq _ (λi=>aH _ _) t2,ET.l2];omega
           have Tm:=au pY S3 Po;clear pY S3 Po bF ht hsl;go_wp2;go_loopg [23,134] t (λk s23 s134 wz=>∃(t3:Nat) (F':List Nat),s134 = .int .i64 (t3:Nat)/\t3+k=t/\Pg p F nu (L4++(rs.take t3).flatMap (jf cl)) F' wz);case atStart=>exact⟨0,_,rfl,by omega,by simpa using Tm.o0⟩
           case round=>
            obtain⟨t3,F',rfl,bF,pY⟩:=hrel;by_cases ht:t3<t
            ·obtain⟨k,rfl⟩:∃k,gk=k+1:=⟨gk-1,by omega⟩;have te:=HE.o0.fr pY.fr HEF.out;obtain⟨g4,rfl,_,_⟩:=Hn te.row (by omega);obtain⟨r,hr⟩:∃r,rs[t3]?=some r:=⟨_,bO (by rw[<-HRN.out];exact ht)⟩;have rf:=Kz Dg.out.runs r (iC hr);have hd:=Vi rs t3 r hr;have iI:(rs.take (t3+1)).flatMap (jf cl)=(rs.take t3).flatMap (jf cl)++jf cl r:=by rw[zG,hr];simp
             obtain⟨ra,rb,rc⟩:=r;simp only at rf hd;have d0:wr.cell? ⟨g4,t3*3,none⟩=some (.int .i64 ra):=by rw[<-hd.1];exact xE te.row _ (by omega)
             have d1:wr.cell? ⟨g4,t3*3+1,none⟩=some (.int .u32 rb):=by rw[<-hd.2.1];exact xE te.row _ (by omega)
             have d2:wr.cell? ⟨g4,t3*3+2,none⟩=some (.int .i64 rc):=by rw[<-hd.2.2];exact xE te.row _ (by omega)
             obtain⟨S0,C4⟩:=ah wr.heap.size;obtain⟨W1,sK⟩:∃W1,W1=wr.alloc (.cells #[.int .i64 (ra:Nat),.int .u32 (rb:Nat),.int .i64 (rc:Nat)] 344 (0,0)):=⟨_,rfl⟩;have fA:Fr [] wr W1:=by rw[sK];exact (Fr.refl [] wr).alloc _
             have uZ:W1.heap[S0]?=some (.cells #[.int .i64 ra,.int .u32 rb,.int .i64 rc] 344 (0,0)):=by rw[sK,C4];exact bx wr _
             have hSF:S0∉F':=λhx=>by have:=Kj pY.wb S0 hx;omega
             have TA:=te.fr fA (by simp);have ox:ra<cl.length:=by omega
             have x1:=TA.len ox;have x2:=TA.code ox;have y0:=cell_of uZ 0;have y1:=cell_of uZ 1;have y2:=cell_of uZ 2;simp only[bw,aV,bN]at y0 y1 y2;have xZ:∀x∈cl,x<=15:=λx hx=>by have:=Dg.out.cle x hx;omega
             have Gi:((rs.take t3).flatMap (jf cl)).length<=400*30:=by
              have hb:∀r∈rs,(jf cl r).length<=30:=λr hr=>by have h1:=Am cl xZ r.1;have h2:=(Kz Dg.out.runs r hr).2.2;unfold jf;rw[aK,aH];omega
              have h3:=QT (jf cl) 30 (rs.take t3) λr hr=>hb r (xF hr)
              rw[eJ]at h3;have h4:min t3 rs.length*30<=400*30:=uz _ (by omega);omega
             have sH:=L7 p F' _ cl ra W1.drew (yH pY.wb (fA.trans (Fr.av [] W1)) (by simp)) xZ (by rw[Dg.out.full];exact aw _) (by rw[aK];have:=Tm.l2;have:=EU.out;omega);obtain⟨xc,hxc⟩:=ah (df cl ra);obtain⟨xl,kE⟩:=ah (ai cl ra);rw[<-hxc]at x2 sH;rw[<-kE]at x1 sH;have zaB:ra<19:=by omega
             have HJ:=pB sH pY fA uZ hSF iI bF rf Gi xZ;have HS:=ak C4 sK;clear sH pY fA uZ hSF iI bF rf Gi xZ te TA hr hd hxc kE C4 sK;go_upto_region 39 with fail;rw[<-HS.l1,<-HS.o0];clear d0 d1 d2;refine uw 11 (by kernel_rfl) (by kernel_rfl) ?_;simp only[uj];repeat (go_big_quiet_step (fail))
             refine wpQuiet_nil ?_;clear x1 x2 y0 y1 y2;go_upto_region 40 with (go_at_call 246;refine HJ.out.1.mono ?_;rintro e nD ⟨rfl,f15,g15⟩;have vX:=ak f15 (Pg.step (HJ.out.2.1.dF (HJ.out.2.2.1.trans (Fr.av [] W1))) f15 g15);clear f15 g15);obtain⟨F15,Bc⟩:=vX.out.2;have Jo:=vX.out.1.ae (w:=W1.drew) HJ.out.2.2.2.1 HJ.out.2.2.2.2.1;have y1:=cell_of Jo 1;have y2:=cell_of Jo 2;simp only[bw,aV,bN]at y1 y2;have pX:=G2 p F15 _ rb rc nD Bc.wb (by have:=HJ.out.2.2.2.2.2.2.2.1;omega) (by have:=HJ.out.2.2.2.2.2.2.2.1;omega) (by rw[aK,aK];have:=Tm.l2;have:=EU.out;have:=HJ.out.2.2.2.2.2.2.2.2.1;have:=Am cl HJ.out.2.2.2.2.2.2.2.2.2 ra;omega);have Qq:=ak pX Bc;clear pX Bc Jo;go_wp2_with (go_at_call 247;refine Qq.o0.mono ?_;rintro e um ⟨rfl,f16,g16⟩;have yA:=af (Pg.step Qq.l1 f16 g16);clear f16 g16);go_roundg k;case measure=>omega
             case rel=>obtain⟨F16,ni⟩:=yA.out;obtain⟨_,_,_,_,_,iI,bF,_⟩:=HJ.out;refine⟨t3+1,F16,by go_num,by omega,?_⟩;rw[iI,<-gH];unfold jf;rw[<-gH];exact ni
            ·obtain rfl:t3=t:=by omega
             rw[oI (by rw[HRN.out];exact aw _)]at pY;have HJ:=af pY;clear pY bF;go_wp2;(try simp only[Exit.inBlock,Exit.then]);refine bodyPost_end (results_none rfl _ _ _) rfl ?_;have hq:=HJ.out;refine⟨rfl,(HE.o1.mono (by simp)).trans hq.fr,nl,nd,t2,cl,rs,_,{ Dg.out with nc4:=HNC.o0,nc19:=N8,rest:=HNC.l1,bits:=rfl },_,?_,λy hy=>(hq.new y hy).imp id λk=>bS HE.o1.size k⟩;have h3:=hq.wb;rw[Tm.o1,ET.o1]at h3;rw[<-HK.o0,<-HK.o1,<-HK.l2];simpa only[gH] using h3
theorem Kl {w:World} {a:Option Addr} {cap:Nat} {xs:List Nat} (h:Ri w a cap xs) (hn:0<xs.length):∀x∈ae a,x<w.heap.size:=by intro x hx;obtain⟨g,o,rfl,_⟩:=h.at hn;have:=h.cs.lt (by intro e;have:=congrArg List.length e;rw[cN]at this;simp at this;rw[this]at hn;simp at hn) ⟨g,o,none⟩ rfl;simp[ae]at hx;rw[hx];exact this
def eW (ll dl:List Nat) (T:List Tok) (last told:Bool) (b:List Bool):Prop:=
 ∃hd,b=[last]++fD 2 (if told then 2 else 1)++hd++iP ll dl T++kA ll 256/\(told=false->hd=[])/\(told=true->∃nl nd nc cl rs,Told ll dl nl nd nc cl rs hd)
theorem qs8 {ll dl:List Nat} {nl nd nc:Nat} {cl:List Nat} {rs:List Rn} {b:List Bool} (h:Told ll dl nl nd nc cl rs b) (h1:ll.length=286) (h2:dl.length=30):b.length<=20000:=by
 have hr:=h.runs.len;rw[aK,eJ,eJ]at hr;have hle:∀x∈cl,x<=15:=λx hx=>by have:=h.cle x hx;omega
 have h3:=QT (jf cl) 30 rs λr hr=>by have k1:=Am cl hle r.1;have k2:=(Kz h.runs r hr).2.2;unfold jf;rw[aK,aH];omega
 have xS:rs.length<=316:=by simp at hr;omega
 have h4:rs.length*30<=316*30:=uz _ xS;have h5:=h.nc19;rw[h.bits];simp only[aK,aH,yq _ (λi=>aH _ _)];omega
theorem qvf (p:Nat) (F:List Nat) (l0:List Bool) (b:List UInt8) (a al:Option Addr) (cap cl r:Nat) (l:List Mt) (a1 a2:Option Addr) (c1 c2:Nat) (ll dl:List Nat) (told last:Bool) (w:World)
  (hb:Rd w a cap b) (hl:Cs w al (bM l)) (sC:l.length<=cl) (rk:al=none->cl=0) (oP:cl<=maxLen) (dV:dB b r 0 l) (hr:r<=32768) (ie:b.length<=1000000)
  (h1:Ri w a1 c1 ll) (h2:Ri w a2 c2 dl) (hW:Wb w p F l0) (n1:286<=ll.length) (Ik:ll.length<=400) (n2:30<=dl.length) (CM:dl.length<=400) (nt:told=true->ll.length=286/\dl.length=30)
  (nM:∀x∈ll,x<=15) (lU:∀x∈dl,x<=15) (cD:weight ll<=32768) (bq:weight dl<=32768) (hL:l0.length<=1000000000)
  (hF:∀x∈F,x<w.heap.size/\x∉ae a1/\x∉ae a2/\x∉ae a/\x∉ae al) (fh:∀x∈ae a,x<w.heap.size) (oz:∀x∈ae al,x<w.heap.size) :
  Calls Tryz.prog 242 #[.agg #[.slice a b.length cap,.slice al l.length cl,.slice a1 ll.length c1,.slice a2 dl.length c2,.bool told],.pointer (some ⟨p,0,none⟩),.bool last] w λe w'=>
   e = .returned (.tuple #[])/\Fr F w w'/\∃bb,eW ll dl (dR b 0 l) last told bb/\∃F',Wb w' p F' (l0++bb)/\∀y∈F',y∈F\/w.heap.size<=y:=by
 obtain⟨B,hB⟩:=ah w.heap.size;obtain⟨BL,j1⟩:=ah b.length;obtain⟨LL,oE⟩:=ah l.length;obtain⟨m1,jb⟩:=ah ll.length;obtain⟨m2,hU⟩:=ah dl.length;rw[<-j1,<-oE,<-jb,<-hU];obtain⟨w1,oN⟩:∃w1,w1=(w.alloc (.cells #[.slice a BL cap,.slice al LL cl,.slice a1 m1 c1,.slice a2 m2 c2,.bool told] 197 (0,0))).alloc (.cells #[.pointer (some ⟨p,0,none⟩)] 250 (0,0)):=⟨_,rfl⟩;have f1:Fr [] w w1:=by rw[oN];exact ((Fr.refl [] w).alloc _).alloc _
 have iz:w1.heap[B]?=some (.cells #[.slice a BL cap,.slice al LL cl,.slice a1 m1 c1,.slice a2 m2 c2,.bool told] 197 (0,0)):=by rw[oN,hB];exact pJ _ (bx w _)
 have Ji:w1.heap[B+1]?=some (.cells #[.pointer (some ⟨p,0,none⟩)] 250 (0,0)):=by rw[oN,hB];have:=bx (w.alloc (.cells #[.slice a BL cap,.slice al LL cl,.slice a1 m1 c1,.slice a2 m2 c2,.bool told] 197 (0,0))) (.cells #[.pointer (some ⟨p,0,none⟩)] 250 (0,0));rwa [eZ]at this
 have uO:w1.heap.size=B+2:=by rw[oN,eZ,eZ,<-hB]
 have sK:Wb w1 p F l0:=yH hW f1 (by simp);have Lw:B∉F/\B+1∉F:=⟨λh=>by have:=(hF B h).1;omega,λh=>by have:=(hF (B+1) h).1;omega⟩;have H:=mH hb hl sC rk oP dV hr ie h1 h2 nt;have HR:=pB n1 Ik n2 CM nM lU cD bq hL hF;have HE:=aP j1 oE jb hU hB;have HW:=bJ f1 iz Ji uO sK Lw;have Ql:=af oN.symm;have HLA:=ak fh oz;clear fh oz;have e4:=cell_of iz 4;have d0:=cell_of Ji 0;simp only[bw,aV,bN]at e4 d0;clear hb hl sC rk oP dV hr ie h1 h2 nt n1 Ik n2 CM nM lU cD bq hL hF j1 oE jb hU f1 iz Ji uO sK Lw oN hW;go_enter Tryz.func242,Tryz.ntmps242;go_upto_region 1 with fail;rw[Ql.out,<-HE.l4];clear hB;go_upto_if 11 with fail;obtain⟨pp,zP⟩:=ah (B+1);rw[<-zP]at d0 ⊢;have Dd:=af zP;clear zP;go_cut [] from 11 to 21 (λwz=>∃hd F',((told=false->hd=[])/\(told=true->∃nl nd nc cl rs,Told ll dl nl nd nc cl rs hd))/\Pg p F w1 (l0++([last]++fD 2 (if told then 2 else 1))++hd) F' wz)
 case first=>
  cases told with
  | false=>
   have hh:Calls Tryz.prog 243 #[.pointer (some ⟨p,0,none⟩),.bool last,.int .u32 1] w1 (cJ p F w1 (l0++last::fD 2 1)):=Hk p F l0 last 1 w1 HW.o4 (by decide) (by have:=HR.o8;omega);have HH:=af hh;clear hh;go_wp2_with (go_at_call 243;refine HH.out.mono ?_;rintro e w2 ⟨rfl,f2,g2⟩;have H2:=af (Pg.step (Pg.start HW.o4) f2 g2);clear f2 g2);go_meet;obtain⟨F2,h2⟩:=H2.out;exact⟨[],F2,⟨λ_=>rfl,(λh=>by cases h)⟩,by simpa using h2⟩
  | true=>
   have hh:Calls Tryz.prog 243 #[.pointer (some ⟨p,0,none⟩),.bool last,.int .u32 2] w1 (cJ p F w1 (l0++last::fD 2 2)):=Hk p F l0 last 2 w1 HW.o4 (by decide) (by have:=HR.o8;omega);have HH:=af hh;have Le:=H.l10 rfl;have Og:m1=286:=by rw[HE.o2];exact Le.1
   have Xz:m2=30:=by rw[HE.o3];exact Le.2
   subst Og;subst Xz;clear hh Le;go_upto_region 3 with (go_at_call 243;refine HH.out.mono ?_;rintro e w2 ⟨rfl,f2,g2⟩;have H2:=af (Pg.step (Pg.start HW.o4) f2 g2);clear f2 g2);obtain⟨F2,mD⟩:=H2.out;have kL:=mD.fr.ae HW.o1 HW.l5.1;have tZ:=mD.fr.ae HW.o2 HW.l5.2;rw[<-Dd.out]at tZ;have y0:=cell_of kL 0;have y1:=cell_of kL 1;have y2:=cell_of kL 2;have y3:=cell_of kL 3;have y4:=cell_of kL 4;have y5:=cell_of tZ 0;simp only[bw,aV,bN]at y0 y1 y2 y3 y4 y5;have fk:Fr F w w2:=(HW.o0.mono (by simp)).trans mD.fr;have iH:=qz4 p F2 _ (.slice a BL cap) (.slice al LL cl) a1 a2 c1 c2 ll dl true w2 rfl rfl
    (Cp H.o8 fk (λx hx y6=>(HR.l9 x y6).2.1 hx)) (Cp H.o9 fk (λx hx y6=>(HR.l9 x y6).2.2.1 hx)) mD.wb HE.o2.symm HE.o3.symm HR.o4 HR.o5
    (by rw[aK,cQ,aH];have:=HR.o8;omega)
    (λx hx=>by
     refine⟨Kj mD.wb x hx,λh=>?_,λh=>?_⟩
     ·rcases mD.new x hx with k|k
      ·exact (HR.l9 x k).2.1 h
      ·have h3:=Kl H.o8 (by have:=HR.o0;omega) x h
       have:=HW.o0.size
       omega
     ·rcases mD.new x hx with k|k
      ·exact (HR.l9 x k).2.2.1 h
      ·have h3:=Kl H.o9 (by have:=HR.o2;omega) x h
       have:=HW.o0.size
       omega)
   have HT:=af iH;have mG:=af mD;clear iH mD kL tZ fk;go_wp2_with (go_at_call 244;refine HT.out.mono ?_;rintro e w3 ⟨rfl,f3,nl,nd,nc,LA,rs,bt,ht,g3⟩;have H3:=ak (show ∃nl nd nc cl rs,Told ll dl nl nd nc cl rs bt from ⟨nl,nd,nc,LA,rs,ht⟩) (Pg.step mG.out f3 g3);clear f3 g3 ht);go_meet;obtain⟨F3,h3⟩:=H3.out.2;exact⟨bt,F3,⟨(λh=>by cases h),λ_=>H3.out.1⟩,by simpa using h3⟩
 case rest=>
 obtain⟨hd,F2,qu,pY⟩:=hcut;obtain⟨w2,bq⟩:∃w2:World,w2=wc:=⟨_,rfl⟩;rw[<-bq]at pY ⊢;clear bq e4 d0;have ic:hd.length<=20000:=by
  cases told with
  | false=>rw[qu.1 rfl];exact dZ _
  | true=>obtain⟨nl,nd,nc,LA,rs,ht⟩:=qu.2 rfl;have Le:=H.l10 rfl;exact qs8 ht Le.1 Le.2
 have fk:Fr F w w2:=(HW.o0.mono (by simp)).trans pY.fr;have kL:=pY.fr.ae HW.o1 HW.l5.1;have tZ:=pY.fr.ae HW.o2 HW.l5.2;rw[<-Dd.out]at tZ;have Dj:=Cp H.o8 fk (λx hx y6=>(HR.l9 x y6).2.1 hx);have E0:=Cp H.o9 fk (λx hx y6=>(HR.l9 x y6).2.2.1 hx);have cL:=Rr a1 c1 ll w2 Dj HR.o4 HR.o1 HR.o6;unfold gT at cL;rw[<-HE.o2]at cL;have y2:=cell_of kL 2;simp only[bw,aV,bN]at y2;have H2:=lJ qu pY ic fk kL tZ Dj E0;have HC1:=af cL;clear qu pY ic fk kL tZ Dj E0 cL;go_upto_region 6 with (go_at_call 205;refine HC1.out.mono ?_;rintro e w3 ⟨g1,rfl,u3,lo3,SD,f3⟩;have H3:=aF u3 lo3 SD f3;clear u3 lo3 SD f3);clear y2;obtain⟨q6,Sp⟩:=ah w3.heap.size;obtain⟨w4,ft⟩:=ah (w3.alloc (.cells #[.slice (some ⟨g1,0,none⟩) m1 m1] 147 (0,0)));have jX:w4.heap[q6]?=some (.cells #[.slice (some ⟨g1,0,none⟩) m1 m1] 147 (0,0)):=by rw[ft,Sp];exact bx w3 _
 have f4:Fr [] w3 w4:=by rw[ft];exact (Fr.refl [] w3).alloc _
 rw[<-ft,<-Sp];have H4:=aF jX f4 Sp ft;clear jX f4 Sp ft;have f24:Fr [] w2 w4:=H3.out.2.2.2.trans H4.o1;have ky:=Rr a2 c2 dl w4 (H2.out.2.2.2.2.2.2.2.fr f24) HR.o5 HR.o3 HR.o7;unfold gT at ky;rw[<-HE.o3]at ky;have y3:=cell_of (f24.ae H2.out.2.2.2.2.1 (by simp)) 3;simp only[bw,aV,bN]at y3;have GN:=ak ky f24;clear ky f24;go_upto_region 7 with (go_at_call 205;refine GN.o0.mono ?_;rintro e w5 ⟨g2,rfl,u5,lo5,Lj,f5⟩;have H5:=aF u5 lo5 Lj f5;clear u5 lo5 Lj f5);clear y3;obtain⟨q8,NS⟩:=ah w5.heap.size;obtain⟨w6,pg⟩:=ah (w5.alloc (.cells #[.slice (some ⟨g2,0,none⟩) m2 m2] 147 (0,0)));have rQ:w6.heap[q8]?=some (.cells #[.slice (some ⟨g2,0,none⟩) m2 m2] 147 (0,0)):=by rw[pg,NS];exact bx w5 _
 have f6:Fr [] w5 w6:=by rw[pg];exact (Fr.refl [] w5).alloc _
 rw[<-pg,<-NS];have H6:=aF rQ f6 NS pg;clear rQ f6 NS pg;have f46:Fr [] w4 w6:=H5.l3.trans H6.o1;have f26:Fr [] w2 w6:=GN.l1.trans f46;have tC:=f26.ae H2.out.2.2.2.2.1 (by simp);have Jl:=f26.ae H2.out.2.2.2.2.2.1 (by simp);have env:Env p pp q6 B q8 g1 g2 a1 a2 c1 c2 m1 m2 ll dl w6:=by have k0:=cell_of Jl 0;have k2:=cell_of tC 2;have k3:=cell_of tC 3;have k6:=cell_of (f46.ae H4.o0 (by simp)) 0;have k8:=cell_of H6.o0 0;simp only[bw,aV,bN]at k0 k2 k3 k6 k8;exact⟨k0,k6,k2,k3,k8,Cs.fr H3.out.1 (H4.o1.trans f46) (by simp),Cs.fr H5.o0 H6.o1 (by simp),H2.out.2.2.2.2.2.2.1.fr f26,H2.out.2.2.2.2.2.2.2.fr f26,HE.o2,HE.o3⟩
 have zd:=H2.out.2.1.fr.size;have W8:=H3.out.2.2.2.size;have W7:=H4.o1.size;have W6:=H5.l3.size;have W5:=H6.o1.size;have La:=HW.o0.size;have hzB:=HW.o3;have YK:∀x∈vt pp q6 B q8 g1 g2 a1 a2,x∉F2/\x<w6.heap.size:=by
  intro x hx;have hn:=H2.out.2.1.new x;have EA:=Kl H.o8 (by have:=HR.o0;omega) x;have ua:=Kl H.o9 (by have:=HR.o2;omega) x;have Lg:x∈F2->x<w2.heap.size:=Kj H2.out.2.1.wb x;have k3:=H3.out.2.1;have k3':=H3.out.2.2.1;have k5:=H5.o1;have k5':=H5.o2;have kq6:=H4.o2;have kq8:=H6.o2;have kpp:=Dd.out;have l6:=lt_of_block H4.o0;have l8:=lt_of_block H6.o0;have lB:=lt_of_block tC;have lp:=lt_of_block Jl;simp only[vt,jy,gw,v7,or_false]at hx;rcases hx with ((rfl|rfl|rfl|rfl|rfl|rfl)|hx)|hx
  ·refine⟨λh=>?_,by omega⟩;rcases hn h with k|k
   ·rw[kpp]at k;exact HW.l5.2 k
   ·omega
  ·exact⟨λh=>by have:=Lg h;omega,by omega⟩
  ·refine⟨λh=>?_,by omega⟩;rcases hn h with k|k
   ·exact HW.l5.1 k
   ·omega
  ·exact⟨λh=>by have:=Lg h;omega,by omega⟩
  ·exact⟨λh=>by have:=Lg h;omega,by omega⟩
  ·exact⟨λh=>by have:=Lg h;omega,by omega⟩
  ·have:=EA hx;refine⟨λh=>?_,by omega⟩;rcases hn h with k|k
   ·exact (HR.l9 x k).2.1 hx
   ·omega
  ·have:=ua hx;refine⟨λh=>?_,by omega⟩;rcases hn h with k|k
   ·exact (HR.l9 x k).2.2.1 hx
   ·omega
 obtain⟨L0,Ps⟩:=ah (l0++([last]++fD 2 (if told then 2 else 1))++hd);have Pr:L0.length<=1000100000:=by rw[Ps];simp only[aK,aH,cQ,lK];have:=HR.o8;have:=H2.out.2.2.1;omega
 have Ir:Wb w6 p F2 L0:=by rw[Ps];exact yH H2.out.2.1.wb f26 (by simp)
 have GA:Fr F w w6:=H2.out.2.2.2.1.trans (f26.mono (by simp));have BA:Rd w6 a cap b:=H.o0.gg GA λx hx y6=>(HR.l9 x y6).2.2.2.1 hx
 have IZ:Cs w6 al (bM l):=H.o1.fr GA λx hx y6=>(HR.l9 x y6).2.2.2.2 hx
 have XC:286<=m1:=by rw[HE.o2];exact HR.o0
 have XA:30<=m2:=by rw[HE.o3];exact HR.o2
 have Ew:=qt9 245 #[.pointer (some ⟨pp,0,none⟩),.pointer (some ⟨q6,0,none⟩),.pointer (some ⟨B,0,none⟩),.pointer (some ⟨q8,0,none⟩)] (λ_ _=>by kernel_rfl)
  (λT F' w'=>Env p pp q6 B q8 g1 g2 a1 a2 c1 c2 m1 m2 ll dl w'/\Wb w' p F' (L0++iP ll dl T)/\(∀x∈vt pp q6 B q8 g1 g2 a1 a2,x∉F'/\x<w'.heap.size)/\(iP ll dl T).length<=48*T.length) F2
  b a al cap cl r l (.slice a1 m1 c1) (.slice a2 m2 c2) told w6 rfl rfl BA IZ H.o2 H.o3 H.o4 H.o5 H.o6 H.o7
  (λx hx=>by
   have Lg:=Kj Ir x hx
   refine⟨Lg,λh=>?_,λh=>?_⟩
   ·rcases H2.out.2.1.new x hx with k|k
    ·exact (HR.l9 x k).2.2.2.1 h
    ·have:=HLA.o0 x h;omega
   ·rcases H2.out.2.1.new x hx with k|k
    ·exact (HR.l9 x k).2.2.2.2 h
    ·have:=HLA.l1 x h;omega)
  (λw' f=>⟨env.fr f (by simp),by simpa[iP] using yH Ir f (by simp),λx hx=>⟨(YK x hx).1,eT (YK x hx).2 f.size⟩,by simp[iP]⟩)
  (λT F' c w' hT ⟨ev,bA,hE,hTl⟩=>by
   refine (qzw p pp q6 B q8 g1 g2 a1 a2 c1 c2 m1 m2 ll dl F' _ c w' ev bA HR.o4 HR.o6 (by omega) (by rw[aK];have:=H.o7;omega)).mono ?_
   rintro e Ka ⟨rfl,f',Zz,sJ,wR⟩
   have hk:=Vu ll dl HR.o4 HR.o5 (.lit c) (λn d h=>by cases h)
   refine⟨rfl,f',Zz,⟨ev.fr f' (λx hx=>(hE x hx).1),by rw[RG,<-gH];exact sJ,λx hx=>⟨λh=>?_,eT (hE x hx).2 f'.size⟩,by rw[RG,aK,aK];simp only[cQ,lK];omega⟩,wR⟩
   rcases wR x h with k|k
   ·exact (hE x hx).1 k
   ·have:=(hE x hx).2;omega)
  (λT F' n d g o w' hT ⟨ev,bA,hE,hTl⟩ h3 jI h1 SK hg e1 e2=>by
   refine (qzv p pp q6 B q8 g1 g2 g o a1 a2 c1 c2 m1 m2 ll dl F' _ n d w' ev bA HR.o4 HR.o6 HR.o5 HR.o7 XC XA (by rw[aK];have:=H.o7;omega) hE h3 jI h1 SK hg e1 e2).mono ?_
   rintro e Ka ⟨rfl,f',Zz,sJ,wR⟩
   have hk:=Vu ll dl HR.o4 HR.o5 (.mat n d) (λn' d' h=>by cases h;exact⟨h3,jI,h1,SK⟩)
   refine⟨rfl,f',Zz,⟨ev.fr f' (λx hx=>(hE x hx).1),by rw[RG,<-gH];exact sJ,λx hx=>⟨λh=>?_,eT (hE x hx).2 f'.size⟩,by rw[RG,aK,aK];simp only[cQ,lK];omega⟩,wR⟩
   rcases wR x h with k|k
   ·exact (hE x hx).1 k
   ·have:=(hE x hx).2;omega)
 unfold xq at Ew;rw[<-HE.o0,<-HE.o1]at Ew;have y0:=cell_of tC 0;have y1:=cell_of tC 1;have y2:=cell_of tC 2;have y3:=cell_of tC 3;have y4:=cell_of tC 4;simp only[bw,aV,bN]at y0 y1 y2 y3 y4;have HEA:=af Ew;have HX:=au GA Ps Pr;clear Ew Ps Pr Ir GA BA IZ env YK f46 f26 tC Jl zd W8 W7 W6 W5 La hzB;go_upto_region 8 with (go_at_call 156;refine HEA.out.mono ?_;rintro e w7 ⟨rfl,f7,F7,⟨GB,AW,S7,EB⟩,N4⟩;have H7:=bJ f7 GB AW S7 EB N4;clear f7 GB AW S7 EB N4);clear y0 y1 y2 y3 y4;obtain⟨f7,GB,AW,S7,EB,N4⟩:=H7.out;obtain⟨ga,oa,ea,d1,d2⟩:=GB.GU (show 256<m1 by omega);subst ea;have d3:=GB.c4;have d4:=GB.c6;have d5:=GB.c32;have bg:=L7 p F7 _ ll 256 w7.drew (yH AW (Fr.av [] w7) (by simp)) HR.o4 HR.o6 (by rw[aK];have:=Mr b 0 l;have:=H.o7;have:=HX.l2;omega);obtain⟨x,hx⟩:=ah (df ll 256);obtain⟨y,hy⟩:=ah (ai ll 256);rw[<-hx]at d2 bg;rw[<-hy]at d1 bg;have hg:decide ((m1:Int)<=256)=false:=by simp;omega
 have HC:=af bg;have HF7:=ak f7 N4;clear bg f7 GB AW S7 EB N4 hx hy;refine uw 8 (by kernel_rfl) (by kernel_rfl) ?_;simp only[uj];repeat (go_big_quiet_step (fail))
 refine wpQuiet_nil ?_;go_wp2_with (go_at_call 246;refine HC.out.mono ?_;rintro e w8 ⟨rfl,f8,F8,qC,xX⟩);(try simp only[Exit.inBlock,Exit.then]);refine bodyPost_end (results_none rfl _ _ _) rfl ?_;have Gj:Fr F w w7:=HX.o0.step HF7.out.1 λy hy=>by
  rcases H2.out.2.1.new y hy with k|k
  ·exact .inl k
  ·exact .inr (bS HW.o0.size k)
 have Pu:∀y∈F7,y∈F\/w.heap.size<=y:=λy hy=>by
  rcases HF7.out.2 y hy with k|k
  ·rcases H2.out.2.1.new y k with k2|k2
   ·exact .inl k2
   ·exact .inr (bS HW.o0.size k2)
  ·exact .inr (bS HX.o0.size k)
 refine⟨rfl,(Gj.trans ((Fr.av [] w7).mono (by simp))).step f8 λy hy=>Pu y hy,[last]++fD 2 (if told then 2 else 1)++hd++iP ll dl (dR b 0 l)++kA ll 256,⟨hd,rfl,H2.out.1.1,H2.out.1.2⟩,F8,?_,λy hy=>?_⟩
 ·rw[HX.o1]at qC;simpa only[gH] using qC
 ·rcases xX y hy with k|k
  ·exact Pu y k
  ·exact .inr (bS Gj.size k)
def qE (i:Nat):Nat:=if i<144 then 8 else if i<256 then 9 else if i<280 then 7 else 8
def sP (n:Nat):List Nat:=(List.range n).map qE
theorem Q9 (n:Nat):sP (n+1)=sP n++[qE n]:=by unfold sP;rw[Kg,gB];rfl
theorem MH (a b:List Nat):ints (a++b)=ints a++ints b:=by simp[ints]
theorem zfi {i:Nat} (h:i<144):qE i=8:=by unfold qE;rw[if_pos h]
theorem zfh {i:Nat} (h1:¬i<144) (h:i<256):qE i=9:=by unfold qE;rw[if_neg h1,if_pos h]
theorem zfg {i:Nat} (h1:¬i<144) (h2:¬i<256) (h:i<280):qE i=7:=by unfold qE;rw[if_neg h1,if_neg h2,if_pos h]
theorem zff {i:Nat} (h1:¬i<144) (h2:¬i<256) (h:¬i<280):qE i=8:=by unfold qE;rw[if_neg h1,if_neg h2,if_neg h]
def qQ (w:World) (e:Ending) (w':World):Prop:=
 ∃a1 c1 a2 c2,e = .returned (.tuple #[.slice a1 288 c1,.slice a2 30 c2])/\Made w w' 3 1 a1 288 c1 (ints (sP 288))/\Made w w' 3 1 a2 30 c2 (ints (List.replicate 30 5))
theorem qvl (w:World):Calls Tryz.prog 127 #[] w (qQ w):=by
 go_enter Tryz.func127,Tryz.ntmps127;go_wp2;go_loopg [0,2,3,9,17] 288 (λk s0 s2 s3 s9 s17 wr=>∃(i:Nat) (ao:Option Addr) (cp:Nat),s3 = .int .i64 (i:Nat)/\s0 = .slice ao i cp/\i+k=288/\Made w wr 3 1 ao i cp (ints (sP i)));case atStart=>exact⟨0,none,0,rfl,rfl,rfl,.none w _ _⟩
 case round=>
  obtain⟨i,ao,cp,rfl,rfl,bU,hm⟩:=hrel;have HI:=ak hm bU;clear hm;by_cases hi:i<288
  ·obtain⟨k,rfl⟩:∃k,gk=k+1:=⟨gk-1,by omega⟩;clear bU;by_cases h1:i<144
   ·go_wp2_with (refine iq oX rfl _ _ rfl (.slice ao i cp) i (ints (sP i)) (ae ao) rfl (dw ao i cp) (HI.o0.fk ((Fr.refl [] _).alloc _)).own (some ⟨wr.heap.size,0,none⟩) 1 1 [.int .i64 8] (by first|rfl|simp) (aw _) (λh=>by cases h) (ny _ _ _ _ (bx _ _)) rfl (by intro u hu;simp only[iQ]at hu;rw[hu];rfl) (by omega) (by unfold maxLen;omega) ?_;intro cX fP w2 bI;have HA:=af ((HI.o0.fk ((Fr.refl [] _).alloc _)).app bI);clear bI);go_roundg k;case measure=>omega
    case rel=>refine⟨i+1,cX,fP,by go_num,rfl,by have:=HI.l1;omega,?_⟩;have EH:=HA.out;rw[Q9,MH,zfi h1];exact EH
   ·by_cases h2:i<256
    ·have h4:¬280<=i:=by omega
     go_wp2_with (refine iq oX rfl _ _ rfl (.slice ao i cp) i (ints (sP i)) (ae ao) rfl (dw ao i cp) (HI.o0.fk ((Fr.refl [] _).alloc _)).own (some ⟨wr.heap.size,0,none⟩) 1 1 [.int .i64 9] (by first|rfl|simp) (aw _) (λh=>by cases h) (ny _ _ _ _ (bx _ _)) rfl (by intro u hu;simp only[iQ]at hu;rw[hu];rfl) (by omega) (by unfold maxLen;omega) ?_;intro cX fP w2 bI;have HA:=af ((HI.o0.fk ((Fr.refl [] _).alloc _)).app bI);clear bI);go_roundg k;case measure=>omega
     case rel=>refine⟨i+1,cX,fP,by go_num,rfl,by have:=HI.l1;omega,?_⟩;have EH:=HA.out;rw[Q9,MH,zfh h1 h2];exact EH
    ·by_cases h3:i<280
     ·have h4:¬280<=i:=by omega
      go_wp2_with (refine iq oX rfl _ _ rfl (.slice ao i cp) i (ints (sP i)) (ae ao) rfl (dw ao i cp) (HI.o0.fk ((Fr.refl [] _).alloc _)).own (some ⟨wr.heap.size,0,none⟩) 1 1 [.int .i64 7] (by first|rfl|simp) (aw _) (λh=>by cases h) (ny _ _ _ _ (bx _ _)) rfl (by intro u hu;simp only[iQ]at hu;rw[hu];rfl) (by omega) (by unfold maxLen;omega) ?_;intro cX fP w2 bI;have HA:=af ((HI.o0.fk ((Fr.refl [] _).alloc _)).app bI);clear bI);go_roundg k;case measure=>omega
      case rel=>refine⟨i+1,cX,fP,by go_num,rfl,by have:=HI.l1;omega,?_⟩;have EH:=HA.out;rw[Q9,MH,zfg h1 h2 h3];exact EH
     ·have h4:280<=i:=by omega
      go_wp2_with (refine iq oX rfl _ _ rfl (.slice ao i cp) i (ints (sP i)) (ae ao) rfl (dw ao i cp) (HI.o0.fk ((Fr.refl [] _).alloc _)).own (some ⟨wr.heap.size,0,none⟩) 1 1 [.int .i64 8] (by first|rfl|simp) (aw _) (λh=>by cases h) (ny _ _ _ _ (bx _ _)) rfl (by intro u hu;simp only[iQ]at hu;rw[hu];rfl) (by omega) (by unfold maxLen;omega) ?_;intro cX fP w2 bI;have HA:=af ((HI.o0.fk ((Fr.refl [] _).alloc _)).app bI);clear bI);go_roundg k;case measure=>omega
      case rel=>refine⟨i+1,cX,fP,by go_num,rfl,by have:=HI.l1;omega,?_⟩;have EH:=HA.out;rw[Q9,MH,zff h1 h2 h3];exact EH
  ·obtain rfl:i=288:=by omega
   clear bU;obtain⟨wo,rfl⟩:∃wo:World,wo=wr:=⟨_,rfl⟩;go_wp2;go_loopg [1,24] 30 (λk s1 s24 wr=>∃(j:Nat) (a2:Option Addr) (c2:Nat),s24 = .int .i64 (j:Nat)/\s1 = .slice a2 j c2/\j+k=30/\Made wo wr 3 1 a2 j c2 (ints (List.replicate j 5)));case atStart=>exact⟨0,none,0,rfl,rfl,rfl,.none wo _ _⟩
   case round=>
    obtain⟨j,a2,c2,rfl,rfl,eG,hm⟩:=hrel;have HJ:=ak hm eG;clear hm;by_cases hj:j<30
    ·obtain⟨k,rfl⟩:∃k,gk=k+1:=⟨gk-1,by omega⟩;clear eG;go_wp2_with (refine iq oX rfl _ _ rfl (.slice a2 j c2) j (ints (List.replicate j 5)) (ae a2) rfl (dw a2 j c2) (HJ.o0.fk ((Fr.refl [] _).alloc _)).own (some ⟨wr.heap.size,0,none⟩) 1 1 [.int .i64 5] (by first|rfl|simp) (aw _) (λh=>by cases h) (ny _ _ _ _ (bx _ _)) rfl (by intro u hu;simp only[iQ]at hu;rw[hu];rfl) (by omega) (by unfold maxLen;omega) ?_;intro cX fP w2 bI;have HA:=af ((HJ.o0.fk ((Fr.refl [] _).alloc _)).app bI);clear bI);go_roundg k;case measure=>omega
     case rel=>refine⟨j+1,cX,fP,by go_num,rfl,by have:=HJ.l1;omega,?_⟩;have EH:=HA.out;rw[Hx,MH];exact EH
    ·obtain rfl:j=30:=by omega
     clear eG;go_wp2;go_ret2;exact⟨ao,cp,a2,c2,rfl,HI.o0.fk HJ.o0.fr,HJ.o0.pre HI.o0.fr⟩
theorem qy0 {ll dl:List Nat} {T:List Tok} {told:Bool} {b:List Bool} (h:eW ll dl T true told b):0<b.length:=by obtain⟨hd,rfl,_⟩:=h;simp only[aK,cQ,lK];omega
theorem qv8 {b:List UInt8} {r:Nat} (hr:r<=32768):∀(k i:Nat) (l:List Mt),k=b.length-i->dB b r i l->∀x∈dR b i l,∀n d,x = .mat n d->3<=n/\n<=258/\1<=d/\d<=32768:=by
 intro k;induction k using Nat.strongRecOn with
 | ind k ih=>
  intro i l hk dV x hx n d he;by_cases h:i<b.length
  ·match l,dV with
   | [],dV=>
    rw[Mu h (λa n d t he=>by cases he)]at hx;rcases gw.1 hx with e|e
    ·rw[e]at he;cases he
    ·exact ih (b.length-(i+1)) (by omega) (i+1) [] rfl trivial x e n d he
   | (a,n',d')::t,dV=>
    by_cases hc:a=i
    ·subst hc;have ky:=dV;obtain⟨k1,k2,k3,k4,k5,k6,k7,_,k9⟩:=ky;rw[UX h (by omega)]at hx;rcases gw.1 hx with e|e
     ·rw[e]at he;simp only[Tok.mat.injEq]at he;obtain⟨rfl,rfl⟩:=he;exact⟨k2,k3,k4,by omega⟩
     ·exact ih (b.length-(a+n')) (by omega) (a+n') t rfl k9 x e n d he
    ·have h3:=qod (l:=(a,n',d')::t) dV _ _ _ _ rfl hc;rw[Mu h (λa2 n2 d2 t2 Gk=>by simp only[List.cons.injEq,fj]at Gk;rw[<-Gk.1.1];exact hc)]at hx;rcases gw.1 hx with e|e
     ·rw[e]at he;cases he
     ·exact ih (b.length-(i+1)) (by omega) (i+1) _ rfl h3 x e n d he
  ·rw[UW (by omega)]at hx;cases hx
theorem qnr (ll dl:List Nat) (h1:∀l∈ll,l<=15) (h2:∀l∈dl,l<=15) (T:List Tok) (hT:∀x∈T,∀n d,x = .mat n d->3<=n/\n<=258/\1<=d/\d<=32768):(iP ll dl T).length<=T.length*48:=
 QT (lz ll dl) 48 T λx hx=>Vu ll dl h1 h2 x (hT x hx)
theorem qoj (q:Nat) (b:List UInt8) (a al:Option Addr) (cap cl r:Nat) (l:List Mt) (a1 a2:Option Addr) (c1 c2:Nat) (ll dl:List Nat) (told:Bool) (w:World)
  (hq:w.heap[q]?=some (.cells #[.iface 197 (.agg #[.slice a b.length cap,.slice al l.length cl,.slice a1 ll.length c1,.slice a2 dl.length c2,.bool told])] 247 (0,0)))
  (hb:Rd w a cap b) (hl:Cs w al (bM l)) (sC:l.length<=cl) (rk:al=none->cl=0) (oP:cl<=maxLen) (dV:dB b r 0 l) (hr:r<=32768) (ie:b.length<=1000000)
  (h1:Ri w a1 c1 ll) (h2:Ri w a2 c2 dl) (n1:286<=ll.length) (Ik:ll.length<=400) (n2:30<=dl.length) (CM:dl.length<=400) (nt:told=true->ll.length=286/\dl.length=30)
  (nM:∀x∈ll,x<=15) (lU:∀x∈dl,x<=15) (cD:weight ll<=32768) (bq:weight dl<=32768)
  (fh:∀x∈ae a,x<w.heap.size) (oz:∀x∈ae al,x<w.heap.size) :
  Calls Tryz.prog 128 #[.slice (some ⟨q,0,none⟩) 1 1] w λe w'=>∃bb,eW ll dl (dR b 0 l) true told bb/\bb.length<=100000000/\aD w (bytesOf bb) e w':=by
 obtain⟨p,hp⟩:=ah w.heap.size;obtain⟨w1,oN⟩:∃w1,w1=w.alloc (.cells #[.slice none 0 0,.int .u64 0,.int .i64 0] 245):=⟨_,rfl⟩;have fu:=Z4 w;rw[<-oN,<-hp]at fu;have f1:Fr [] w w1:=by rw[oN];exact (Fr.refl [] w).alloc _
 obtain⟨w2,Iu⟩:∃w2,w2=w1.alloc (.cells #[.slice none 0 0] 238):=⟨_,rfl⟩;have f2:Fr [] w1 w2:=by rw[Iu];exact (Fr.refl [] w1).alloc _
 have f12:=f1.trans f2;have d0:=cell_of (f1.ae hq (by simp)) 0;simp only[bw,aV]at d0;have Bw:=qvf p [p] [] b a al cap cl r l a1 a2 c1 c2 ll dl told true w2 (hb.fr f12) (hl.fr f12 (by simp)) sC rk oP dV hr ie (h1.fr f12) (h2.fr f12) (yH fu f2 (by simp)) n1 Ik n2 CM nt nM lU cD bq (by decide)
  (λx hx=>by
   have e:x=p:=by simpa using hx
   have k1:=Kl h1 (by omega) x
   have k2:=Kl h2 (by omega) x
   have k3:=fh x
   have k4:=oz x
   have k5:=lt_of_block (bx w (.cells #[.slice none 0 0,.int .u64 0,.int .i64 0] 245))
   rw[<-oN,<-hp]at k5
   have:=f2.size
   exact⟨by omega,λh=>by have:=k1 h;omega,λh=>by have:=k2 h;omega,λh=>by have:=k3 h;omega,λh=>by have:=k4 h;omega⟩)
  (λx hx=>eT (fh x hx) f12.size) (λx hx=>eT (oz x hx) f12.size)
 have Gn:∀bb,eW ll dl (dR b 0 l) true told bb->bb.length<=100000000:=by
  rintro bb ⟨hd,rfl,Jc,oC⟩;have k1:=qnr ll dl nM lU (dR b 0 l) (qv8 hr _ 0 l rfl dV);have k2:=Mr b 0 l;have k3:=Am ll nM 256;have k4:hd.length<=20000:=by
   cases told with
   | false=>rw[Jc rfl];exact dZ _
   | true=>obtain⟨nl,nd,nc,LA,rs,ht⟩:=oC rfl;exact qs8 ht (nt rfl).1 (nt rfl).2
  simp only[aK,cQ,lK,aH];omega
 obtain⟨BL,j1⟩:=ah b.length;obtain⟨LL,oE⟩:=ah l.length;obtain⟨m1,jb⟩:=ah ll.length;obtain⟨m2,hU⟩:=ah dl.length;rw[<-j1,<-oE,<-jb,<-hU]at d0 Bw;have xP:∀w:World,(Instr.typeAssert (.iface 197 (.agg #[.slice a BL cap,.slice al LL cl,.slice a1 m1 c1,.slice a2 m2 c2,.bool told])) 247 238 true).run Tryz.prog w = .ok (.tuple #[.agg #[.slice none 0 0],.bool false]) w:=λ_=>by kernel_rfl
 have wT:∀(f:Nat) (w:World),(method (f+1) 197 (.agg #[.slice a BL cap,.slice al LL cl,.slice a1 m1 c1,.slice a2 m2 c2,.bool told]) "stemma/deflate.write").run Tryz.prog w = .ok (242,.agg #[.slice a BL cap,.slice al LL cl,.slice a1 m1 c1,.slice a2 m2 c2,.bool told]) w:=λ_ _=>by kernel_rfl
 have H:=aP Bw Gn f1 f2 fu;have HW:=au oN.symm Iu.symm hp;clear hq hb hl sC rk oP dV hr ie h1 h2 n1 Ik n2 CM nt nM lU cD bq fh oz Bw Gn f1 f2 fu oN Iu hp f12 j1 oE jb hU;go_enter Tryz.func128,Tryz.ntmps128;go_upto_block 0 with fail;rw[HW.o0,<-HW.l2];go_wp2;go_loopg [4,5,6,7,10] 1 (λk s4 s5 s6 s7 s10 wr=>∃(t:Nat) (F:List Nat) (bb:List Bool),s10 = .int .i64 (t:Nat)/\t+k=1/\(t=0->wr=w1)/\(t=1->eW ll dl (dR b 0 l) true told bb/\Wb wr p F bb/\Fr [] w wr));case atStart=>exact⟨0,[],[],rfl,rfl,λ_=>rfl,λh=>absurd h (by omega)⟩
 case round=>
  obtain⟨t,F,bb,rfl,bF,h0,h1⟩:=hrel;by_cases ht:t=0
  ·subst ht;obtain rfl:=h0 rfl;obtain rfl:gk=1:=by omega
   clear h0 h1 bF;go_upto_region 8 with fail;rw[HW.o1];go_wp2_with (go_at_call 242;refine H.o0.mono ?_;rintro e w3 ⟨rfl,f3,bb,kU,F3,jd,wP⟩;have H3:=aF f3 kU jd wP;clear f3 kU jd wP);go_roundg 0;case measure=>omega
   case rel=>
    refine⟨1,F3,bb,rfl,rfl,λh=>absurd h (by omega),λ_=>⟨H3.o1,by simpa using H3.o2,(H.o2.trans H.o3).step H3.o0 λy hy=>.inr ?_⟩⟩;have e:y=p:=by simpa using hy
    rw[e,HW.l2];exact aw _
  ·obtain rfl:t=1:=by omega
   obtain rfl:gk=0:=by omega
   obtain⟨kU,hW,hf⟩:=h1 rfl;have kg:=qy7 p F bb wr hW (qy0 kU) (by have:=H.o1 bb kU;omega);unfold aD at kg;have HB:=au kg hf kU;clear kg hW hf kU h0 h1;go_wp2_with (go_at_call 155;refine HB.o0.mono ?_;rintro e Ka ⟨a2',rfl,r2,CM,f2'⟩);go_ret;refine⟨bb,HB.l2,H.o1 bb HB.l2,?_⟩;unfold aD;exact⟨a2',rfl,r2,λx hx=>⟨bS HB.o1.size (CM x hx).1,(CM x hx).2⟩,HB.o1.trans f2'⟩
end defl

end Go.Proofs.YtkmpfgpfbmeihaaGreatDoor