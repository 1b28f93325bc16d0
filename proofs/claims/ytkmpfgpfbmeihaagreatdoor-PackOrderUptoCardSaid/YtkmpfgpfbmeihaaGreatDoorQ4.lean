/-
  Texts of this proof, one behind the other: ShaW, MixR, ShaSum, ShaWhole, DeltaLaw, PkLaw, PkLaw2, Take.
-/
import Derived.Test.YtkmpfgpfbmeihaaGreatDoorQ3
set_option maxHeartbeats 16000000
set_option maxRecDepth 100000
set_option linter.unusedVariables false
set_option linter.unusedSimpArgs false
namespace Go.Proofs.YtkmpfgpfbmeihaaGreatDoor
namespace sha
open Go Go.RowKit lib bm
structure DF (C:AV) (h:H5) (v:Value) (len:Nat):Prop where
 size:C.size=267
 k:C[0]?=some (.int .i64 1)
 a:C[1]?=some (.int .u32 h.a)
 b:C[2]?=some (.int .u32 h.b)
 c:C[3]?=some (.int .u32 h.c)
 d:C[4]?=some (.int .u32 h.d)
 e:C[5]?=some (.int .u32 h.e)
 r:C[6]?=some v
 n:C[7]?=some (.int .u64 len)
theorem DF.MQ {C:AV} {h:H5} {v:Value} {len:Nat} (s:DF C h v len) (u:Value):DF (C.setIfInBounds 6 u) h u len:=by obtain⟨h1,h2,h3,h4,h5,h6,h7,h8,h9⟩:=s;exact⟨by simp[h1],by rw[aX (by decide),h2],by rw[aX (by decide),h3],by rw[aX (by decide),h4],by rw[aX (by decide),h5],by rw[aX (by decide),h6],by rw[aX (by decide),h7],iG (by omega),by rw[aX (by decide),h9]⟩
theorem DF.U7 {C:AV} {h:H5} {v:Value} {len:Nat} (s:DF C h v len) (l:Nat):DF (C.setIfInBounds 7 (.int .u64 l)) h v l:=by obtain⟨h1,h2,h3,h4,h5,h6,h7,h8,h9⟩:=s;exact⟨by simp[h1],by rw[aX (by decide),h2],by rw[aX (by decide),h3],by rw[aX (by decide),h4],by rw[aX (by decide),h5],by rw[aX (by decide),h6],by rw[aX (by decide),h7],by rw[aX (by decide),h8],iG (by omega)⟩
theorem DF.U6 {C:AV} {h:H5} {v:Value} {len:Nat} (s:DF C h v len) (a b c d e:Int) :
  DF (((((C.setIfInBounds 1 (.int .u32 a)).setIfInBounds 2 (.int .u32 b)).setIfInBounds 3 (.int .u32 c)).setIfInBounds 4 (.int .u32 d)).setIfInBounds 5 (.int .u32 e)) ⟨a,b,c,d,e⟩ v len:=by
 obtain⟨h1,h2,h3,h4,h5,h6,h7,h8,h9⟩:=s;exact⟨by simp[h1],by rw[aX (by decide),aX (by decide),aX (by decide),aX (by decide),aX (by decide),h2],by rw[aX (by decide),aX (by decide),aX (by decide),aX (by decide)];exact iG (by simp[h1]),by rw[aX (by decide),aX (by decide),aX (by decide)];exact iG (by simp[h1]),by rw[aX (by decide),aX (by decide)];exact iG (by simp[h1]),by rw[aX (by decide)];exact iG (by simp[h1]),iG (by simp[h1]),by rw[aX (by decide),aX (by decide),aX (by decide),aX (by decide),aX (by decide),h8],by rw[aX (by decide),aX (by decide),aX (by decide),aX (by decide),aX (by decide),h9]⟩
structure Sh (w:World) (g:Nat) (h:H5) (ra:OA) (rc:Nat) (rs:LB) (len:Nat):Prop where
 af:∃C,w.heap[g]?=some (.cells C 188 (0,0))/\DF C h (.slice ra rs.length rc) len
 own:ej w 5 ra rc (rs.map bv)
 ne:g∉lib.af ra
def leftOf:Nat->List UInt8->List UInt8
 | 0,p=>p
 | f+1,p=>if 64<=p.length then leftOf f (p.drop 64) else p
theorem qso (w:World):Calls Tryz.prog 106 #[.int .i64 1] w λe w'=>e = .returned (.pointer (some ⟨w.heap.size,0,none⟩))/\Sh w' w.heap.size h0 none 0 [] 0/\Fr [] w w':=by go_enter Tryz.func106,Tryz.ntmps106;go_wp2;go_ret;exact⟨rfl,⟨⟨_,bC w _,⟨rfl,rfl,rfl,rfl,rfl,rfl,rfl,rfl,rfl⟩⟩,ej.nil _ _,by simp[lib.af]⟩,(Fr.refl [] w).alloc _⟩
theorem WM (g:Nat) (h:H5) (ra:OA) (rc:Nat) (rs:LB) (len cap:Nat) (ao:OA) (bs:LB) (w:World) (hs:Sh w g h ra rc rs len) (hr:Rd w ao cap bs) (Gx:bs≠[]->∀x∈lib.af ao,x≠g)
  (hl:len+bs.length<=140737488355328) (rB:rs.length+bs.length<=140737488355328) :
  Calls Tryz.prog 94 #[.pointer (some ⟨g,0,none⟩),.slice ao bs.length cap] w λe w'=>e = .returned (.tuple #[])/\Fr (g::lib.af ra) w w'/\
   ∃sw su,Sh w' g (blocks (rs++bs).length h (rs++bs)) sw su (leftOf (rs++bs).length (rs++bs)) (len+bs.length)/\∀x∈lib.af sw,x∈lib.af ra\/w.heap.size<=x:=by
 obtain⟨L,hL⟩:=ai bs.length;obtain⟨R,hR⟩:=ai rs.length;have hle:=hr.le;have dK:=hr.max;unfold maxLen at dK;obtain⟨C,hC,hc⟩:=hs.af;obtain⟨o1,o2,o3⟩:=hs.own.shape;rw[bW]at o1;rw[<-hR]at o1 hc rB;rw[<-hL]at hle hl rB ⊢;have c0:=(cell_of hC 0).trans hc.k;have c6:=(cell_of hC 6).trans hc.r;have c7:=(cell_of hC 7).trans hc.n;have z7:=aW hC 7;have H:=dk hC hc hs hr Gx hL hR;clear hC hc hs hr Gx hL hR;go_enter Tryz.func94,Tryz.ntmps94;go_upto_region 3 with fail;have f1:Fr [g] w (w.setCell ⟨g,7,none⟩ (.int .u64 ((len+L:Nat):Int))):=(Fr.refl [g] w).setCell (by simp) _;have vF:=bI (o:=7) H.o0 (.int .u64 ((len+L:Nat):Int));have cY:=H.o1.U7 (len+L);have Cy:((len+L:Nat):Int)=(len:Int)+(L:Int):=by omega
 rw[Cy]at f1 vF;generalize w.setCell ⟨g,7,none⟩ (.int .u64 ((len:Int)+(L:Int)))=w1 at *;rw[<-Cy]at vF;obtain⟨C1,hCC⟩:∃C1,C1=C.setIfInBounds 7 (.int .u64 ((len+L:Nat):Int)):=⟨_,rfl⟩;rw[<-hCC]at vF cY;have c6':=(cell_of vF 6).trans cY.r;have z6:=aW vF 6;have Ds:ej w1 5 ra rc (rs.map bv):=H.o2.own.fr f1 (λx hx hm=>by simp at hm;rw[hm]at hx;exact H.o2.ne hx);have zx:Rd w1 ao cap bs:=Af H.o3 f1 (λhb x hx hm=>by simp at hm;exact H.o4 hb x hx hm);have H1:=aQ vF cY f1 Ds zx;clear vF cY f1 Ds zx hCC c0 c6 c7 z7 Cy;go_upto_block 1 with (refine Bn sums.aq rfl _ _ rfl ra R rc (rs.map bv) rfl H1.o3 (by rw[bW];exact H.l6.symm) ao L cap (bs.map bv) rfl hle H1.l4.nil H1.l4.cs (by rw[bW];exact H.o5.symm) (sums.j3 _) (by omega) (by unfold maxLen;omega) ?_;intro a2 q2 w2 A2;have c62:=A2.fr.cell c6' H.o2.ne;have z62:w2.frozen? ⟨g,6,none⟩=false:=aW (A2.fr.af H1.o0 H.o2.ne) 6;have H2:=ah A2;clear A2);have eH:(rs++bs).length=R+L:=by rw[aA,<-H.l6,<-H.o5]
 have mA:Sh (w2.setCell ⟨g,6,none⟩ (.slice a2 (R+L) q2)) g h a2 q2 (rs++bs) (len+L)/\Fr (g::lib.af ra) w (w2.setCell ⟨g,6,none⟩ (.slice a2 (R+L) q2))/\∀x∈lib.af a2,x∈lib.af ra\/w.heap.size<=x:=by
  have yC:g∉lib.af a2:=λhm=>by
   rcases H2.out.at_ g hm with k|k
   ·exact H.o2.ne k
   ·have:=lt_of_block H1.o0;omega
  have f6:Fr [g] w2 (w2.setCell ⟨g,6,none⟩ (.slice a2 (R+L) q2)):=(Fr.refl [g] w2).setCell (by simp) _;have kT:=H2.out.fr.af H1.o0 H.o2.ne;refine⟨⟨⟨_,bI kT _,by rw[eH];exact H1.o1.MQ _⟩,by rw[gF];exact H2.out.own.fr f6 (λx hx hm=>by simp at hm;rw[hm]at hx;exact yC hx),yC⟩,((H1.o2.mono (by simp)).step H2.out.fr (λy hy=>.inl (by simp[hy]))).step f6 (λy hy=>.inl (by simp at hy;simp[hy])),λx hx=>?_⟩;rcases H2.out.at_ x hx with k|k
  ·exact .inl k
  ·exact .inr (ck H1.o2.size k)
 generalize w2.setCell ⟨g,6,none⟩ (.slice a2 (R+L) q2)=w3 at *;have HS:=ak mA eH;clear mA eH c62 z62 c6' z6;go_wp2;go_loopg [] (R+L) (λk wr=>∃(h':H5) (sw:OA) (su:Nat) (ps:LB),Sh wr g h' sw su ps (len+L)/\Fr (g::lib.af ra) w wr/\(∀x∈lib.af sw,x∈lib.af ra\/w.heap.size<=x)/\ps.length<=k/\blocks k h' ps=blocks (rs++bs).length h (rs++bs)/\leftOf k ps=leftOf (rs++bs).length (rs++bs));case atStart=>exact⟨h,a2,q2,rs++bs,HS.o0.1,HS.o0.2.1,HS.o0.2.2,by rw[HS.l1];exact ay _,by rw[HS.l1],by rw[HS.l1]⟩
 case round=>
  obtain⟨h',sw,su,ps,hs,hf,hn,hk,bQ,hdo⟩:=hrel;obtain⟨P,hP⟩:=ai ps.length;obtain⟨C',hC,hc⟩:=hs.af;obtain⟨XK,o2',o3'⟩:=hs.own.shape;rw[bW]at XK;rw[<-hP]at hc hk XK;have c6:=(cell_of hC 6).trans hc.r;have HR:=lv hs hf hn bQ hdo hP hC hc;clear hs hf hn bQ hdo hP;by_cases pN:64<=P
  ·obtain⟨k,rfl⟩:∃k,gk=k+1:=⟨gk-1,by omega⟩;have d1:decide ((64:Int)<=P)=true:=by simp;omega
   go_upto_region 5 with fail;have c1:=(cell_of hC 1).trans hc.a;have c2:=(cell_of hC 2).trans hc.b;have c3:=(cell_of hC 3).trans hc.c;have c4:=(cell_of hC 4).trans hc.d;have c5:=(cell_of hC 5).trans hc.e;have hmx:=λw' (f:Fr [] wr w')=>qze h' sw P su ps w' (HR.o0.own.rd.fr f) HR.o5.symm pN
   unfold H5.vals at hmx;have HM:=ah hmx;clear hmx hC hc;refine j4 12 [(false,0),(false,1),(false,2),(false,3),(false,4),(false,5),(false,6),(false,7),(false,8),(true,9),(false,10),(false,11)] [] (by kernel_rfl) (by kernel_rfl) (λ_ _ d _ _ h=>by cases d<;>exact h) ?_;simp only[jm];refine dT 9 rfl ?_;simp only[bD];repeat (go_big_quiet_step (fail))
   refine wpQuiet_nil ?_;refine eT rfl ?_;intro X hX;go_wp2_with (go_at_call 117;refine (HM.out _ (Fr.av [] wr)).mono ?_;rintro e w5 ⟨rfl,f5⟩);refine hX.out _ _ f5 ?_;clear hX X c1 c2 c3 c4 c5 c6;refine dT 2 rfl ?_;simp only[bD];repeat (go_big_quiet_step (fail))
   refine wpQuiet_nil ?_;refine ic ?_;have oo:=f5.af (show wr.drew.heap[g]?=_ from HR.o6) (by simp);have kD:=HR.l7;have c1:=(cell_of oo 1).trans kD.a;have c2:=(cell_of oo 2).trans kD.b;have c3:=(cell_of oo 3).trans kD.c;have c4:=(cell_of oo 4).trans kD.d;have c5:=(cell_of oo 5).trans kD.e;have z1:=aW oo 1;have z2:=aW oo 2;have z3:=aW oo 3;have z4:=aW oo 4;have z5:=aW oo 5;obtain⟨mh,YO⟩:=ai (kr h' ps);rw[<-YO];obtain⟨ma,mb,mc,md,me⟩:=mh;simp only;have DM:=aG oo kD f5 YO;clear oo kD f5 YO;go_upto_region 6 with fail;have f6:Fr [g] w5 (((((w5.setCell ⟨g,1,none⟩ (.int .u32 ma)).setCell ⟨g,2,none⟩ (.int .u32 mb)).setCell ⟨g,3,none⟩ (.int .u32 mc)).setCell ⟨g,4,none⟩ (.int .u32 md)).setCell ⟨g,5,none⟩ (.int .u32 me)):=(((((Fr.refl [g] w5).setCell (by simp) _).setCell (by simp) _).setCell (by simp) _).setCell (by simp) _).setCell (by simp) _;have rX:=bI (o:=5) (bI (o:=4) (bI (o:=3) (bI (o:=2) (bI (o:=1) DM.o0 (.int .u32 ma)) (.int .u32 mb)) (.int .u32 mc)) (.int .u32 md)) (.int .u32 me);have Zq:=DM.o1.U6 ma mb mc md me;clear c1 c2 c3 c4 c5 z1 z2 z3 z4 z5;generalize ((((w5.setCell ⟨g,1,none⟩ (.int .u32 ma)).setCell ⟨g,2,none⟩ (.int .u32 mb)).setCell ⟨g,3,none⟩ (.int .u32 mc)).setCell ⟨g,4,none⟩ (.int .u32 md)).setCell ⟨g,5,none⟩ (.int .u32 me)=w6 at *;have c6:=(cell_of rX 6).trans Zq.r;have z6:=aW rX 6;have H6:=aw rX Zq f6;clear rX Zq f6;have Ce:aL sw su 64 1=if su=64 then sw else Option.map (λx=>x.add (64*1)) sw:=rfl
   have HCA:=ah Ce;clear Ce;go_wp2_with (refine vY sums.aq 64 rfl _ _ rfl sw P su _ rfl rfl rfl pN XK ?_);go_roundg k;case measure=>omega
   case rel=>
    have f7:Fr [g] w6 (w6.setCell ⟨g,6,none⟩ (.slice (aL sw su 64 1) (P-64) (su-64))):=(Fr.refl [g] w6).setCell (by simp) _;have hU:(ps.drop 64).length=P-64:=by rw[eV,<-HR.o5]
    have Cv:Fr (g::lib.af ra) w (w6.setCell ⟨g,6,none⟩ (.slice (aL sw su 64 1) (P-64) (su-64))):=(((HR.o1.trans ((Fr.av [] wr).mono (by simp))).trans (DM.o2.mono (by simp))).step H6.l2 (λy hy=>.inl (by simp at hy;simp[hy]))).step f7 (λy hy=>.inl (by simp at hy;simp[hy]));have cQ:g∉lib.af (aL sw su 64 1):=by rw[SM];exact HR.o0.ne
    have how:ej (w6.setCell ⟨g,6,none⟩ (.slice (aL sw su 64 1) (P-64) (su-64))) 5 (aL sw su 64 1) (su-64) ((ps.drop 64).map bv):=by have h1:=((HR.o0.own.fr (Fr.av [] wr) (by simp)).fr DM.o2 (by simp)).drop 64 (by rw[bW,<-HR.o5];exact pN);rw[<-Hu]at h1;exact (h1.fr H6.l2 (λx hx hm=>by simp at hm;rw[hm]at hx;exact cQ hx)).fr f7 (λx hx hm=>by simp at hm;rw[hm]at hx;exact cQ hx)
    refine⟨⟨ma,mb,mc,md,me⟩,_,_,ps.drop 64,⟨⟨_,bI H6.o0 _,by rw[hU];exact H6.o1.MQ _⟩,how,cQ⟩,Cv,λx hx=>HR.o2 x (by rw[SM]at hx;exact hx),by rw[hU];omega,?_,?_⟩
    ·have:=HR.o3;rw[blocks,if_pos (by rw[<-HR.o5];exact pN),<-DM.l3]at this;exact this
    ·have:=HR.o4;rw[leftOf,if_pos (by rw[<-HR.o5];exact pN)]at this;exact this
  ·have d1:decide ((64:Int)<=P)=false:=by simp;omega
   have wu:blocks gk h' ps=h':=by
    cases gk with
    | zero=>rfl
    | succ k=>rw[blocks,if_neg (by rw[<-HR.o5];exact pN)]
   have Ua:leftOf gk ps=ps:=by
    cases gk with
    | zero=>rfl
    | succ k=>rw[leftOf,if_neg (by rw[<-HR.o5];exact pN)]
   have HZ:=ak wu Ua;clear wu Ua hC hc;go_wp2;go_end0;refine⟨rfl,HR.o1,sw,su,?_,HR.o2⟩;rw[<-HR.o3,<-HR.o4,HZ.o0,HZ.l1];exact HR.o0
end sha
namespace lib
open Go
theorem Fr.bA {S:LN} {w w':World} (h:Fr S w w'):Fr S w.drew w':=⟨h.os,h.tape,h.output,h.size,h.block⟩
section
variable {P : Program} {ops : Array Oper} {Q : Exit -> Act -> World -> Prop} {md : Region.Mode}
def mq (P:Program) (ops:Array Oper) (S:LN) (Q:Exit->Act->World->Prop) (tail:List Oper):List (Bool×Oper)->World->Act->World->Prop
 | [],_,a,w=>wpList P ops Q tail a w
 | (false,o)::rest,b,a,w=>if Region.wanted o (yielded ops a.tmps) then o.quiet P a (fO S b) (λa'=>mq P ops S Q tail rest b a' w) else mq P ops S Q tail rest b (a.put o.dst undef) w
 | (true,o)::rest,b,a,w=>if Region.wanted o (yielded ops a.tmps) then o.wp P a w (λa' w'=>∃b',Fr S b b'/\Fr S b' w'/\mq P ops S Q tail rest b' a' w') Q else mq P ops S Q tail rest b (a.put o.dst undef) w
theorem Nx {n:Nat} {S:LN} {l:List Oper} (hl:ops=l.toArray) (cE:Region.noSelect ops=true) (hQ:∀c a d v w,Q (.panic c) (Act.put a d v) w->Q (.panic c) a w)
  (hT:∀i,i<n->∀listed,HeadInv md ops n listed->listed.getD i true=false->∀t,n<=t->t∉Region.ready md ops listed) :
  ∀(order:List (Bool×Nat)) (listed:Array Bool) (b:World) (a:Act) (w:World),Fr S b w->HeadInv md ops n listed->zo md ops n order listed=true->
   mq P ops S Q (l.drop n) (order.map λx=>(x.1,l.getD x.2 default)) b a w->mR P md ops Q n (fO S b) (order.length+(ops.size-n)) listed a w
 | [],listed,b,a,w,_,_,hB,h=>by
  have hlen:(l.drop n).length=ops.size-n:=by rw[hl];simp
  have:=SY (P:=P) (Q:=Q) (md:=md) (ops:=ops) (n:=n) (C:=fO S b) (l.drop n) n listed a w (ay _) (λj=>by rw[hl];simp[Ai]) (by rw[hlen];exact hB) h;simpa[hlen] using this
 | (e,i)::rest,listed,b,a,w,dR,inv,hB,h=>by
  simp only[zo,lQ,decide_eq_true_eq]at hB;obtain⟨⟨dP,he⟩,bu⟩:=hB;have hlen:((e,i)::rest).length+(ops.size-n)=rest.length+(ops.size-n)+1:=by simp;omega
  rw[hlen];have hC:fO S b w:=fO.of dR;cases e with
  | false=>
   simp only[lQ]at he;obtain⟨⟨hr,hf⟩,hk⟩:=he;have eS:i∈Region.ready md ops listed:=by simpa using hr
   obtain⟨_,oi,dO,_⟩:=mem_ready.1 eS;rw[dO]at hk;have hd:l.getD i default=oi:=by rw[hl]at dO;simp at dO;simp[List.getD,dO]
   simp only[gX,hd,mq]at h;by_cases hw:Region.wanted oi (yielded ops a.tmps)=true
   ·rw[if_pos hw]at h;obtain⟨v,h1,h2⟩:=h;have hy:QY P ops (fO S b) oi v a:=.inl ⟨hw,λu hu=>NR hk (h1 u hu)⟩;exact SJ dO (De cE) hQ dP (hT i dP) _ listed a w inv (C7 dO hf) eS hy hC (Nx hl cE hQ hT rest _ b _ w dR (inv.set eS dP) bu h2)
   ·rw[if_neg hw]at h;have hy:QY P ops (fO S b) oi undef a:=.inr ⟨by simpa using hw,rfl⟩;exact SJ dO (De cE) hQ dP (hT i dP) _ listed a w inv (C7 dO hf) eS hy hC (Nx hl cE hQ hT rest _ b _ w dR (inv.set eS dP) bu h)
  | true=>
   simp only[decide_eq_true_eq]at he;have eS:i∈Region.ready md ops listed:=by rw[he];simp
   obtain⟨_,oi,dO,_⟩:=mem_ready.1 eS;have hd:l.getD i default=oi:=by rw[hl]at dO;simp at dO;simp[List.getD,dO]
   simp only[gX,hd,mq]at h;refine⟨λh0=>(by rw[h0]at eS;cases eS),λj hj=>?_⟩;rw[he]at hj;have iz:j=i:=by simpa using hj
   subst iz;unfold wpOp;simp only[dO];by_cases hw:Region.wanted oi (yielded ops a.tmps)=true
   ·rw[if_pos hw]at h;rw[if_pos hw];left;exact Oper.wp_mono (λa' w' h'=>by
     obtain⟨b',g1,g2,h'⟩:=h'
     exact⟨λ_=>fO.of (g1.trans g2),Sx (fO.sub g1) _ _ _ _ (Nx hl cE hQ hT rest _ b' a' w' g2 (inv.set eS dP) bu h')⟩) h
   ·rw[if_neg hw]at h;rw[if_neg hw];exact⟨λ_=>hC,Nx hl cE hQ hT rest _ b _ w dR (inv.set eS dP) bu h⟩
theorem SV {id:Nat} {a:Act} {w:World} {l:List Oper} (n:Nat) (order:List (Bool×Nat)) (S:LN) (hm:P.follows .mixedOrders=true) (hB:tC .any l.toArray n order=true)
  (hQ:∀c a d v w,Q (.panic c) (Act.put a d v) w->Q (.panic c) a w)
  (h:mq P l.toArray S Q (l.drop n) (order.map λx=>(x.1,l.getD x.2 default)) w.drew a w.drew):(Code.region id l.toArray true).wp P Q a w:=by
 simp only[tC,lQ,decide_eq_true_eq,Bool.or_eq_true]at hB;obtain⟨⟨⟨cE,hn⟩,hlen⟩,xt⟩:=hB;have Bz:HeadInv .any l.toArray n (Array.replicate l.toArray.size false):=
  ⟨by simp,λj oj _ hl=>(by rw[getD_replicate_false]at hl;cases hl),λt _ ht=>getD_in (by simpa using ht) (getD_replicate_false _ _)⟩
 have hT:∀i,i<n->∀listed,HeadInv .any l.toArray n listed->listed.getD i true=false->∀t,n<=t->t∉Region.ready .any l.toArray listed:=by
  intro i hi listed inv nY t ht hr;rcases hn with hn|⟨⟨hn,hs⟩,hc⟩
  ·obtain⟨_,o,ho,_⟩:=mem_ready.1 hr;have:=(IC.1 ho).1;omega
  ·exact tail_waits hs hc hn inv _ i rfl hi nY t ht hr
 refine wp_region_any hm (SX (n:=n) (C:=fO S w.drew) _ _ _ _ ?_);have:=Nx (P:=P) (Q:=Q) (md:=.any) (n:=n) (S:=S) rfl cE hQ hT order _ w.drew a w.drew (Fr.refl _ _) Bz xt h;rw[hlen]at this;exact this
theorem FI {S:LN} {tail:List Oper} {items:List (Bool×Oper)} {b:World} {a:Act} {w:World} (k:Nat) (h0:((items.take k).all λx=>!x.1)=true)
  (h:wpQuiet P ops (fO S b) (λa'=>mq P ops S Q tail (items.drop k) b a' w) ((items.take k).map (·.2)) a):mq P ops S Q tail items b a w:=by
 induction k generalizing items a with
 | zero=>exact h
 | succ k ih=>
  cases items with
  | nil=>exact h
  | cons x rest=>
   obtain⟨e,o⟩:=x;simp only[qs,List.all_cons,lQ,Bool.not_eq_true']at h0;obtain⟨rfl,h0⟩:=h0;simp only[qs,gX,wO,wpQuiet]at h;unfold mq;by_cases hw:Region.wanted o (yielded ops a.tmps)=true
   ·rw[if_pos hw]at h ⊢;obtain⟨v,h1,h2⟩:=h;exact⟨v,h1,ih h0 h2⟩
   ·rw[if_neg hw]at h ⊢;exact ih h0 h
theorem DX {S:LN} {tail:List Oper} {rest:List (Bool×Oper)} {o:Oper} {b:World} {a:Act} {w:World} (hw:Region.wanted o (yielded ops a.tmps)=true)
  (h:∀K:Act->World->Prop,Go.RowKit.Hid (∀a' w' b',Fr S b b'->Fr S b' w'->mq P ops S Q tail rest b' a' w'->K a' w')->o.wp P a w K Q):mq P ops S Q tail ((true,o)::rest) b a w:=by
 unfold mq;rw[if_pos hw];exact h _ λ_ _ b' h1 h2 h3=>⟨b',h1,h2,h3⟩
theorem Sj {S:LN} {tail:List Oper} {b:World} {a:Act} {w:World} (h:wpList P ops Q tail a w):mq P ops S Q tail [] b a w:=h
end
end lib
namespace sha
open Go Go.RowKit lib bm
def vR (n:Nat):Nat:=(56+64-n%64)%64
def oF (rs:LB):List UInt8:=rs++[128]++List.replicate (vR (rs.length+1)) 0
def dz (rs:LB) (len:Nat):List UInt8:=oF rs++sums.fX (len/536870912)++sums.fX (len*8%4294967296)
theorem qrl (rs:LB):(oF rs).length%64=56:=by unfold oF vR;simp only[aA,yd,Am];omega
theorem qj1 (rs:LB) (len:Nat):(dz rs len).length%64=0:=by have:=qrl rs;unfold dz;rw[aA,aA,sums.wJ,sums.wJ];omega
def G7 (h:H5):Prop:=(0<=h.a/\h.a<4294967296)/\(0<=h.b/\h.b<4294967296)/\(0<=h.c/\h.c<4294967296)/\(0<=h.d/\h.d<4294967296)/\(0<=h.e/\h.e<4294967296)
theorem Nz (a b:Int):0<=cW a b/\cW a b<4294967296:=by unfold cW;omega
theorem V6 (h:H5) (p:LB):G7 (kr h p):=⟨Nz _ _,Nz _ _,Nz _ _,Nz _ _,Nz _ _⟩
theorem UW:G7 h0:=by unfold G7 h0;decide
theorem SL:∀(f:Nat) (h:H5) (p:LB),G7 h->G7 (blocks f h p)
 | 0,_,_,h=>h
 | f+1,h,p,hr=>by
  rw[blocks];split
  ·exact SL f _ _ (V6 h p)
  ·exact hr
def vI (h:H5):List UInt8:=sums.fX h.a.toNat++sums.fX h.b.toNat++sums.fX h.c.toNat++sums.fX h.d.toNat++sums.fX h.e.toNat
theorem qx6 (g:Nat) (h:H5) (ra:OA) (rc:Nat) (rs:LB) (len:Nat) (w:World) (hs:Sh w g h ra rc rs len) (rB:rs.length<64) (Yp:G7 h) (hlen:len<=140737488355328) :
  Calls Tryz.prog 96 #[.pointer (some ⟨g,0,none⟩)] w λe w'=>(∃ao c,e = .returned (.slice ao 20 c)/\Rd w' ao c (vI (blocks (dz rs len).length h (dz rs len))))/\Fr [] w w':=by
 obtain⟨R,hR⟩:=ai rs.length;obtain⟨C,hC,hc⟩:=hs.af;obtain⟨o1,o2,o3⟩:=hs.own.shape;rw[bW,<-hR]at o1;rw[<-hR]at hc rB;have c0:=(cell_of hC 0).trans hc.k;have c6:=(cell_of hC 6).trans hc.r;have di:=hs.own.rd;have H:=aQ hC hc hs hR di;clear hC hc hs hR di;go_enter Tryz.func96,Tryz.ntmps96;have mT:True:=trivial;go_upto_block 1 with (first|(have _t:=mT;refine Bn sums.aq rfl _ _ rfl none 0 0 [] rfl (ej.nil _ _) rfl ra R rc (rs.map bv) rfl o1 o3 H.l4.cs (by rw[bW];exact H.o3.symm) (sums.j3 _) (by omega) (by unfold maxLen;omega) ?_;intro a1 q1 w1 A1;rw[qj]at A1;have H1:=ah A1;clear A1;clear mT _t)|(refine Bn sums.aq rfl _ _ rfl a1 R q1 (rs.map bv) rfl (H1.out.own.fr ((Fr.refl [] w1).alloc (.cells #[.int .u8 128] 5)) (by simp)) (by rw[bW];exact H.o3.symm) (some ⟨w1.heap.size,0,none⟩) 1 1 [.int .u8 128] rfl (by omega) (by simp) (Ae w1 _ _ _) rfl (by simp[Value.oneCell']) (by omega) (by unfold maxLen;omega) ?_;intro a2 q2 w2 A2;have H2:=ah A2;clear A2));have AJ:Fr [] w w2:=((H1.out.fr.mono (T:=[]) (by simp[lib.af])).trans ((Fr.refl [] w1).alloc (.cells #[.int .u8 128] 5))).step H2.out.fr (λy hy=>by
  rcases H1.out.at_ y hy with k|k
  ·simp[lib.af]at k
  ·exact .inr k)
 have vr:∀x∈lib.af a2,w.heap.size<=x:=λx hx=>by
  have h1:=H1.out.fr.size;rcases H2.out.at_ x hx with k|k
  ·rcases H1.out.at_ x k with k2|k2
   ·simp[lib.af]at k2
   ·exact k2
  ·rw[fD]at k;omega
 have oJ:ej w2 5 a2 q2 ((rs++[128]).map bv):=by rw[gF];exact H2.out.own
 obtain⟨Z,hZ⟩:=ai (vR (R+1));have Ud:Z<64/\(R+1+Z)%64=56:=by rw[hZ];unfold vR;omega
 have HW:=aG AJ vr oJ hZ;clear AJ vr oJ hZ c6 H1 H2;go_wp2;go_loopg [3] Z (λk s3 wr=>∃(j N:Nat) (a:OA) (q:Nat),s3 = .slice a N q/\N=R+1+j/\j+k=Z/\ej wr 5 a q ((rs++[128]++List.replicate j 0).map bv)/\Fr [] w wr/\∀x∈lib.af a,w.heap.size<=x);case atStart=>exact⟨0,R+1,a2,q2,rfl,rfl,by omega,by simpa using HW.o2,HW.o0,HW.o1⟩
 case round=>
  obtain⟨j,N,a,q,rfl,hN,fx,aI,hf,fL⟩:=hrel;obtain⟨p1,p2,p3⟩:=aI.shape;have oN:(rs++[128]++List.replicate j (0:UInt8)).length=N:=by simp only[aA,yd,Am];rw[<-H.o3,hN]
  rw[bW,oN]at p1;have HR:=aG aI hf fL oN;clear aI hf fL oN;by_cases hj:j<Z
  ·obtain⟨k,rfl⟩:∃k,gk=k+1:=⟨gk-1,by omega⟩;have cQ:¬(N%64=56):=by omega
   have d1:((N:Int)%64 !=56)=true:=by simp;omega
   have HN:=ak hN fx;have ZL:N<=200:=by omega
   clear cQ hN fx;go_wp2_with (refine Bn sums.aq rfl _ _ rfl a N q ((rs++[128]++List.replicate j 0).map bv) rfl (HR.o0.fr ((Fr.refl [] wr).alloc (.cells #[.int .u8 0] 5)) (by simp)) (by rw[bW];exact HR.l3) (some ⟨wr.heap.size,0,none⟩) 1 1 [.int .u8 0] rfl (by omega) (by simp) (Ae wr _ _ _) rfl (by simp[Value.oneCell']) (by omega) (by unfold maxLen;omega) ?_;intro a4 q4 w4 A4;have H4:=ah A4;clear A4);go_roundg k;case measure=>omega
   case rel=>
    obtain⟨hN,fx⟩:=HN.out;refine⟨j+1,N+1,a4,q4,rfl,by omega,by omega,?_,(HR.o1.trans ((Fr.refl [] wr).alloc (.cells #[.int .u8 0] 5))).step H4.out.fr (λy hy=>.inr (HR.o2 y hy)),λx hx=>?_⟩
    ·rw[Ix,<-eE,gF];exact H4.out.own
    ·have h1:=HR.o1.size;rcases H4.out.at_ x hx with k|k
     ·exact HR.o2 x k
     ·rw[fD]at k;omega
  ·obtain rfl:j=Z:=by omega
   obtain rfl:gk=0:=by omega
   have d1:((N:Int)%64 !=56)=false:=by simp;omega
   have ZL:N<=200:=by omega
   have HN:=ah hN;clear hN fx;go_upto_region 9 with fail;clear d1;obtain⟨x1,eQ⟩:∃x,x=len/536870912:=⟨_,rfl⟩;obtain⟨x2,kt⟩:∃x,x=len*8%4294967296:=⟨_,rfl⟩;have e1:(len:Int)/536870912=(x1:Int):=by omega
   have e2:((len:Int)*8)%4294967296=(x2:Int):=by omega
   obtain⟨bs,mD⟩:∃bs,bs=rs++[128]++List.replicate j (0:UInt8):=⟨_,rfl⟩;have hpt:bs=oF rs:=by rw[mD,oF,<-H.o3,<-HW.l3]
   have bQ:bs.length=N:=by rw[mD];exact HR.l3
   have zB:=HR.o0;rw[<-mD]at zB;have Cj:=HR.o1.af H.o0 (by simp);have TW:g<w.heap.size:=lt_of_block H.o0;have Y7:g∉lib.af a:=λhm=>by have:=HR.o2 g hm;omega
   obtain⟨S,hS⟩:=ai (lib.af a);have s7:∀x,(sup S wr.drew x).cell? ⟨g,7,none⟩=some (.int .u64 len):=λx=>(dY S wr.drew x).cell (show wr.drew.cell? _=_ from (cell_of Cj 7).trans H.o1.n) (by rw[hS];exact Y7)
   have jT:Calls Tryz.prog 119 #[.slice a N q,.int .u32 x1] wr.drew (sums.j1 wr.drew a bs x1):=by have:=sums.Nu a q bs x1 wr.drew (by omega) zB (by omega);rw[bQ]at this;exact this
   have gD:=λw' a' q' (ho:ej w' 5 a' q' ((bs++sums.fX x1).map bv))=>sums.Nu a' q' (bs++sums.fX x1) x2 w' (by omega) ho (by rw[aA,sums.wJ];omega)
   rw[show (bs++sums.fX x1).length=N+4 from by rw[aA,sums.wJ,bQ]]at gD;unfold sums.j1 at jT gD;rw[bQ]at jT;have OD:x2<4294967296:=by omega
   have HF:=oU jT gD Cj Y7 hS hpt bQ eQ kt;clear jT gD Cj Y7 hS hpt bQ mD zB eQ kt;refine SV 16 [(false,0),(false,1),(false,2),(false,3),(false,4),(false,5),(false,6),(false,8),(false,9),(false,10),(false,11),(false,12),(false,13),(true,7),(true,14),(false,15)] S (by kernel_rfl) (by kernel_rfl) (λ_ _ d _ _ h=>by cases d<;>exact h) ?_;simp only[jm];refine FI 13 rfl ?_;simp only[bD];repeat (go_big_quiet_step (fail))
   refine wpQuiet_nil ?_;have Fo:=ah e2;clear s7 e1 e2;refine DX rfl ?_;intro X hX;go_wp2_with (go_at_call 119;refine HF.o0.mono ?_;rintro e w5 ⟨a5,q5,rfl,A5⟩);have J9:Fr S wr.drew w5:=by rw[HF.o4];exact A5.fr
   refine hX.out _ _ wr.drew (Fr.refl _ _) J9 ?_;clear hX X;have UN:=ah A5;clear A5;refine DX rfl ?_;intro X hX;have gD:=HF.o1 _ a5 q5 UN.out.own;rw[<-Fo.out,show (bs++sums.fX x1).length=N+4 from by rw[aA,sums.wJ,HF.o6]]at gD;have UL:=ah gD;clear gD;go_wp2_with (go_at_call 119;go_loud (with_reducible refine UL.out.mono ?_);rintro e w6 ⟨a6,q6,rfl,A6⟩);have J8:Fr S wr.drew w6:=J9.step A6.fr λy hy=>by
    rcases UN.out.at_ y hy with k|k
    ·exact .inl (by rw[HF.o4];exact k)
    ·exact .inr k
   refine hX.out _ _ wr.drew (Fr.refl _ _) J8 ?_;clear hX X;have HA6:=ah A6;clear A6;refine FI 1 rfl ?_;simp only[bD];repeat (go_big_quiet_step (fail))
   refine wpQuiet_nil ?_;refine Sj ?_;have G4:Fr [] w w6:=(HR.o1.trans (Fr.av [] wr)).step J8 (λy hy=>.inr (by rw[HF.o4]at hy;exact HR.o2 y hy));have Cj:=G4.af H.o0 (by simp);have c1:=(cell_of Cj 1).trans H.o1.a;have c2:=(cell_of Cj 2).trans H.o1.b;have c3:=(cell_of Cj 3).trans H.o1.c;have c4:=(cell_of Cj 4).trans H.o1.d;have c5:=(cell_of Cj 5).trans H.o1.e;obtain⟨pd,vo⟩:=ai (dz rs len);have Jg:bs++sums.fX x1++sums.fX x2=pd:=by rw[vo,dz,HF.o5,HF.o7,HF.l8]
   have fY:pd.length=N+4+4:=by rw[<-Jg,aA,aA,sums.wJ,sums.wJ,HF.o6]
   have EA:pd.length%64=0:=by rw[vo];exact qj1 rs len
   have ur:ej w6 5 a6 q6 (pd.map bv):=by rw[<-Jg];exact HA6.out.own
   have hnp:∀x∈lib.af a6,w.heap.size<=x:=λx hx=>by
    have k0:=HR.o1.size;rcases HA6.out.at_ x hx with k|k
    ·rcases UN.out.at_ x k with k2|k2
     ·exact HR.o2 x k2
     ·exact ck k0 k2
    ·exact ck (ck k0 J9.size) k
   rw[<-fY];have HP:=cJ G4 ur hnp vo fY EA;clear G4 ur hnp vo fY EA Jg Cj J9 J8 UN HA6;go_upto_block 3 with fail;clear c1 c2 c3 c4 c5;obtain⟨Q,w7,hQ,Dn,f7,b7⟩:∃Q w7,Q=w6.heap.size/\w7=w6.alloc (.cells #[.int .u32 h.a,.int .u32 h.b,.int .u32 h.c,.int .u32 h.d,.int .u32 h.e] 185)/\Fr [] w6 w7/\w7.heap[Q]?=some (.cells h.vals 185 (0,0)):=⟨_,_,rfl,rfl,(Fr.refl [] w6).alloc _,bC w6 _⟩;rw[<-Dn,<-hQ];have H7:=aw f7 b7 hQ;clear Dn hQ f7 b7;go_wp2;go_loopg [3] pd.length (λk s3 wr=>∃(h':H5) (ps:LB) (P:Nat) (a:OA) (q:Nat),s3 = .slice a P q/\P=ps.length/\P%64=0/\P<=k/\ej w7 5 a q (ps.map bv)/\Q∉lib.af a/\wr.heap[Q]?=some (.cells h'.vals 185 (0,0))/\Fr [Q] w7 wr/\G7 h'/\blocks k h' ps=blocks pd.length h pd);case atStart=>exact⟨h,pd,pd.length,a6,q6,rfl,rfl,HP.l5,ay _,HP.o1.fr H7.o0 (by simp),λhm=>by have:=HP.o1.lt _ hm;rw[H7.l2]at this;omega,H7.o1,Fr.refl _ _,Yp,rfl⟩
   case round=>
    obtain⟨h',ps,P,a,q,rfl,hP,JX,hPk,aI,ZH,GQ,hf,L5,bQ⟩:=hrel;obtain⟨p1,p2,p3⟩:=aI.shape;rw[bW,<-hP]at p1;have HL:=lv aI ZH GQ hf L5 bQ hP JX;have c0:=cell_of GQ 0;have c1:=cell_of GQ 1;have c2:=cell_of GQ 2;have c3:=cell_of GQ 3;have c4:=cell_of GQ 4;unfold H5.vals at c0 c1 c2 c3 c4;simp only[bF,aT,bP]at c0 c1 c2 c3 c4;by_cases h0:0<P
    ·have pN:64<=P:=by omega
     obtain⟨k,rfl⟩:∃k,gk=k+1:=⟨gk-1,by omega⟩;clear aI ZH GQ hf L5 bQ hP JX;have hmx:=qze h' a P q ps wr (HL.o0.fr HL.o3 (λx hx hm=>by simp at hm;rw[hm]at hx;exact HL.o1 hx)).rd HL.o6.symm pN;unfold H5.vals at hmx;have HM:=ah hmx;clear hmx;go_wp2_with (first|(go_at_call 117;refine HM.out.mono ?_;rintro e w8 ⟨rfl,f8⟩;have uy:=f8.af HL.o2 (by simp);have d0:=cell_of uy 0;have d1:=cell_of uy 1;have d2:=cell_of uy 2;have d3:=cell_of uy 3;have d4:=cell_of uy 4;have y0:=aW uy 0;have y1:=aW uy 1;have y2:=aW uy 2;have y3:=aW uy 3;have y4:=aW uy 4;unfold H5.vals at d0 d1 d2 d3 d4;simp only[bF,aT,bP]at d0 d1 d2 d3 d4;have H8:=ak f8 uy;clear f8 uy c0 c1 c2 c3 c4)|(refine vY sums.aq 64 rfl _ _ rfl a P q _ rfl rfl rfl pN p1 ?_));obtain⟨k1,k2⟩:=jN H8.out.2 (.int .u32 (kr h' ps).a) (.int .u32 (kr h' ps).b) (.int .u32 (kr h' ps).c) (.int .u32 (kr h' ps).d) (.int .u32 (kr h' ps).e);have HK:=ak k1 k2;clear k1 k2;go_roundg k;case measure=>omega
     case rel=>have hd:=HL.o0.drop 64 (by rw[bW,<-HL.o6];exact pN);rw[<-Hu]at hd;refine⟨kr h' ps,ps.drop 64,P-64,_,_,rfl,by rw[eV,<-HL.o6],by have:=HL.l7;omega,by omega,hd,by rw[SM];exact HL.o1,HK.out.1,(HL.o3.trans (H8.out.1.mono (by simp))).trans HK.out.2,V6 _ _,?_⟩;have:=HL.o5;rw[blocks,if_pos (by rw[<-HL.o6];exact pN)]at this;exact this
    ·have Ml:blocks gk h' ps=h':=by
      cases gk with
      | zero=>rfl
      | succ k=>rw[blocks,if_neg (by rw[<-hP];omega)]
     rw[Ml]at bQ;obtain⟨ha,hb,hc,hd,he⟩:=h';obtain⟨⟨r1,l1⟩,⟨r2,l2⟩,⟨r3,l3⟩,⟨r4,l4⟩,⟨r5,l5⟩⟩:=L5;simp only at r1 r2 r3 r4 r5 l1 l2 l3 l4 l5 c0 c1 c2 c3 c4;obtain⟨na,rfl⟩:=Ga r1;obtain⟨nb,rfl⟩:=Ga r2;obtain⟨nc,rfl⟩:=Ga r3;obtain⟨nd,rfl⟩:=Ga r4;obtain⟨ne,rfl⟩:=Ga r5;have wC:Fr [] w wr:=(HP.o0.trans H7.o0).step hf (λy hy=>.inr (by simp at hy;rw[hy,H7.l2];exact HP.o0.size));have P7:vI (blocks pd.length h pd)=sums.fX na++sums.fX nb++sums.fX nc++sums.fX nd++sums.fX ne:=by rw[<-bQ];rfl
     have HD:=ak wC P7;have HL5:Hid ((na<4294967296/\nb<4294967296)/\(nc<4294967296/\nd<4294967296/\ne<4294967296)):=ah (by omega);clear aI ZH GQ hf bQ hP JX Ml wC P7 HL r1 r2 r3 r4 r5 l1 l2 l3 l4 l5;have lT:∀w:World,(Instr.makeSlice 23 (.int .i64 0) (.int .i64 20)).run Tryz.prog w = .ok (.slice (some ⟨w.heap.size,0,none⟩) 0 20) (w.alloc (.cells #[.int .u8 0,.int .u8 0,.int .u8 0,.int .u8 0,.int .u8 0,.int .u8 0,.int .u8 0,.int .u8 0,.int .u8 0,.int .u8 0,.int .u8 0,.int .u8 0,.int .u8 0,.int .u8 0,.int .u8 0,.int .u8 0,.int .u8 0,.int .u8 0,.int .u8 0,.int .u8 0] 5)):=λ_=>by kernel_rfl
     go_upto_region 15 with fail;obtain⟨Bo,w9,yM,LQ,f9,b9⟩:∃Bo w9,Bo=wr.heap.size/\w9=wr.alloc (.cells #[.int .u8 0,.int .u8 0,.int .u8 0,.int .u8 0,.int .u8 0,.int .u8 0,.int .u8 0,.int .u8 0,.int .u8 0,.int .u8 0,.int .u8 0,.int .u8 0,.int .u8 0,.int .u8 0,.int .u8 0,.int .u8 0,.int .u8 0,.int .u8 0,.int .u8 0,.int .u8 0] 5)/\Fr [] wr w9/\w9.heap[Bo]?=some (.cells #[.int .u8 0,.int .u8 0,.int .u8 0,.int .u8 0,.int .u8 0,.int .u8 0,.int .u8 0,.int .u8 0,.int .u8 0,.int .u8 0,.int .u8 0,.int .u8 0,.int .u8 0,.int .u8 0,.int .u8 0,.int .u8 0,.int .u8 0,.int .u8 0,.int .u8 0,.int .u8 0] 5 (0,0)):=⟨_,_,rfl,rfl,(Fr.refl [] wr).alloc _,bC wr _⟩;rw[<-LQ,<-yM];have e0:=f9.cell c0 (by simp);have e1:=f9.cell c1 (by simp);have e2:=f9.cell c2 (by simp);have e3:=f9.cell c3 (by simp);have e4:=f9.cell c4 (by simp);have o9:ej w9 5 (some ⟨Bo,0,none⟩) 20 (([]:LB).map bv):=.inr ⟨Bo,0,_,rfl,b9,ep _,by decide,ay _,rfl⟩;have n9:w.heap.size<=Bo:=by rw[yM];exact HD.o0.size
     have H9:=aw (HD.o0.trans f9) o9 n9;clear LQ yM f9 b9 o9 n9 c0 c1 c2 c3 c4 lT;go_upto_block 5 with fail;clear e0 e1 e2 e3 e4;go_wp2;go_loopg [5,7,78] 5 (λk s5 s7 s78 wr=>∃(j n:Nat) (a:OA) (q:Nat) (out:LB),s78 = .int .i64 (j:Nat)/\s5 = .slice a n q/\n=out.length/\j+k=5/\n=4*j/\ej wr 5 a q (out.map bv)/\Fr [] w wr/\(∀x∈lib.af a,w.heap.size<=x)/\out=([na,nb,nc,nd,ne].take j).flatMap sums.fX);case atStart=>exact⟨0,0,_,20,[],rfl,rfl,rfl,rfl,rfl,H9.o1,H9.o0,λx hx=>by simp[lib.af]at hx;rw[hx];exact H9.l2,rfl⟩
     case round=>
      obtain⟨j,n,a,q,out,rfl,rfl,hn,fx,L8,aI,hf,fL,cC⟩:=hrel;by_cases hj:j<5
      ·obtain⟨k,rfl⟩:∃k,gk=k+1:=⟨gk-1,by omega⟩;obtain⟨⟨m1,m2⟩,m3,m4,m5⟩:=HL5.out;have vx:=λx (hx:x<4294967296)=>sums.Nu a q out x wr hx aI (by omega)
       rw[<-hn]at vx;unfold sums.j1 at vx;rw[<-hn]at vx;have xP:=aQ vx hf fL cC hn;clear vx hf fL cC aI hn;have key:∀(x:Nat) (w':World) (a':OA) (q':Nat),([na,nb,nc,nd,ne].take (j+1)).flatMap sums.fX=out++sums.fX x->eU wr w' 5 a a' q' ((out++sums.fX x).map bv)->
         ∃out',n+4=out'.length/\n+4=4*(j+1)/\ej w' 5 a' q' (out'.map bv)/\Fr [] w w'/\(∀x∈lib.af a',w.heap.size<=x)/\out'=([na,nb,nc,nd,ne].take (j+1)).flatMap sums.fX:=λx w' a' q' hx A=>
        ⟨out++sums.fX x,by rw[aA,sums.wJ,xP.out.2.2.2.2],by omega,A.own,xP.out.2.1.step A.fr (λy hy=>.inr (xP.out.2.2.1 y hy)),λy hy=>by
         rcases A.at_ y hy with k|k
         ·exact xP.out.2.2.1 y k
         ·exact ck xP.out.2.1.size k,hx.symm⟩
       have HK:=ah key;have HJ:=ak L8 fx;clear key L8 fx;rcases (show j=0\/j=1\/j=2\/j=3\/j=4 by omega) with rfl|rfl|rfl|rfl|rfl
       ·have ix:∀w:World,(Instr.index 185 (.agg #[.int .u32 na,.int .u32 nb,.int .u32 nc,.int .u32 nd,.int .u32 ne]) (.int .i64 0)).run Tryz.prog w = .ok (.int .u32 na) w:=λ_=>by kernel_rfl
        go_wp2_with (go_at_call 119;(with_reducible refine (xP.out.1 na m1).mono ?_);rintro e mS ⟨CO,Ao,rfl,yY⟩;have uf:=ah yY;clear yY);go_roundg k;case measure=>have:=HJ.l1;omega
        case rel=>have fx:=HJ.l1;obtain⟨out',t1,t2,t3,t4,t5,t6⟩:=HK.out na _ _ _ (by rw[xP.out.2.2.2.1];simp) uf.out;exact⟨1,n+4,CO,Ao,out',rfl,rfl,t1,by omega,t2,t3,t4,t5,t6⟩
       ·have ix:∀w:World,(Instr.index 185 (.agg #[.int .u32 na,.int .u32 nb,.int .u32 nc,.int .u32 nd,.int .u32 ne]) (.int .i64 1)).run Tryz.prog w = .ok (.int .u32 nb) w:=λ_=>by kernel_rfl
        go_wp2_with (go_at_call 119;(with_reducible refine (xP.out.1 nb m2).mono ?_);rintro e mS ⟨CO,Ao,rfl,yY⟩;have uf:=ah yY;clear yY);go_roundg k;case measure=>have:=HJ.l1;omega
        case rel=>have fx:=HJ.l1;obtain⟨out',t1,t2,t3,t4,t5,t6⟩:=HK.out nb _ _ _ (by rw[xP.out.2.2.2.1];simp) uf.out;exact⟨2,n+4,CO,Ao,out',rfl,rfl,t1,by omega,t2,t3,t4,t5,t6⟩
       ·have ix:∀w:World,(Instr.index 185 (.agg #[.int .u32 na,.int .u32 nb,.int .u32 nc,.int .u32 nd,.int .u32 ne]) (.int .i64 2)).run Tryz.prog w = .ok (.int .u32 nc) w:=λ_=>by kernel_rfl
        go_wp2_with (go_at_call 119;(with_reducible refine (xP.out.1 nc m3).mono ?_);rintro e mS ⟨CO,Ao,rfl,yY⟩;have uf:=ah yY;clear yY);go_roundg k;case measure=>have:=HJ.l1;omega
        case rel=>have fx:=HJ.l1;obtain⟨out',t1,t2,t3,t4,t5,t6⟩:=HK.out nc _ _ _ (by rw[xP.out.2.2.2.1];simp) uf.out;exact⟨3,n+4,CO,Ao,out',rfl,rfl,t1,by omega,t2,t3,t4,t5,t6⟩
       ·have ix:∀w:World,(Instr.index 185 (.agg #[.int .u32 na,.int .u32 nb,.int .u32 nc,.int .u32 nd,.int .u32 ne]) (.int .i64 3)).run Tryz.prog w = .ok (.int .u32 nd) w:=λ_=>by kernel_rfl
        go_wp2_with (go_at_call 119;(with_reducible refine (xP.out.1 nd m4).mono ?_);rintro e mS ⟨CO,Ao,rfl,yY⟩;have uf:=ah yY;clear yY);go_roundg k;case measure=>have:=HJ.l1;omega
        case rel=>have fx:=HJ.l1;obtain⟨out',t1,t2,t3,t4,t5,t6⟩:=HK.out nd _ _ _ (by rw[xP.out.2.2.2.1];simp) uf.out;exact⟨4,n+4,CO,Ao,out',rfl,rfl,t1,by omega,t2,t3,t4,t5,t6⟩
       ·have ix:∀w:World,(Instr.index 185 (.agg #[.int .u32 na,.int .u32 nb,.int .u32 nc,.int .u32 nd,.int .u32 ne]) (.int .i64 4)).run Tryz.prog w = .ok (.int .u32 ne) w:=λ_=>by kernel_rfl
        go_wp2_with (go_at_call 119;(with_reducible refine (xP.out.1 ne m5).mono ?_);rintro e mS ⟨CO,Ao,rfl,yY⟩;have uf:=ah yY;clear yY);go_roundg k;case measure=>have:=HJ.l1;omega
        case rel=>have fx:=HJ.l1;obtain⟨out',t1,t2,t3,t4,t5,t6⟩:=HK.out ne _ _ _ (by rw[xP.out.2.2.2.1];simp) uf.out;exact⟨5,n+4,CO,Ao,out',rfl,rfl,t1,by omega,t2,t3,t4,t5,t6⟩
      ·obtain rfl:j=5:=by omega
       have HZ:=aG aI hf cC hn;have YJ:n=20:=by omega
       subst YJ;clear aI hf cC hn fL L8 fx;go_wp2;go_ret;refine⟨⟨a,q,rfl,?_⟩,HZ.o1⟩;have e:out=vI (blocks (dz rs len).length h (dz rs len)):=by rw[<-HP.o3,HD.l1,HZ.o2];simp
       rw[<-e];exact HZ.o0.rd
theorem Sz:∀(f:Nat) (p:LB),p.length<=f->(leftOf f p).length<64
 | 0,p,h=>by rw[leftOf];omega
 | f+1,p,h=>by
  rw[leftOf];split
  ·exact Sz f _ (by rw[eV];omega)
  ·omega
def dX (b:LB):List UInt8:=
 vI (blocks (dz (leftOf b.length b) b.length).length (blocks b.length h0 b) (dz (leftOf b.length b) b.length))
theorem rN (b:LB):(dX b).length=20:=rfl
theorem qxw (a:OA) (cap:Nat) (bs:LB) (w:World) (h:Rd w a cap bs) (hl:bs.length<=140737488355328) :
  Calls Tryz.prog 69 #[.int .i64 1,.slice a bs.length cap] w λe w'=>(∃ao c,e = .returned (.slice ao 20 c)/\Rd w' ao c (dX bs))/\Fr [] w w':=by
 have H:=ah h;clear h;go_enter Tryz.func69,Tryz.ntmps69;go_upto_region 2 with (go_at_call 106;refine (qso _).mono ?_;rintro e w1 ⟨rfl,A1,f1⟩);have hw:=WM w.heap.size h0 none 0 [] 0 cap a bs w1 A1 (H.out.fr f1) (λhb x hx=>by have:=A7 H.out hb x hx;omega) (by omega) (by simp;omega);simp only[qj,ft]at hw;have H1:=ak hw f1;clear hw f1 A1;go_upto_region 3 with (go_at_call 94;refine H1.o0.mono ?_;rintro e w2 ⟨rfl,f2,ra,rc,A2,n2⟩);have hs:=qx6 _ _ _ _ _ _ w2 A2 (Sz _ _ (ay _)) (SL _ _ _ UW) hl;have H2:=ak hs f2;clear hs f2 A2 n2;go_wp2_with (go_at_call 96;refine H2.o0.mono ?_;rintro e w3 ⟨⟨a3,c3,rfl,r3⟩,f3⟩);go_ret;exact⟨⟨a3,c3,rfl,r3⟩,(H1.l1.step H2.l1 (λy hy=>.inr (by simp[lib.af]at hy;rw[hy];exact ay _))).trans f3⟩
theorem Sm (a:OA) (cap:Nat) (bs:LB) (w:World) (h:Rd w a cap bs) (hl:bs.length<=140737488355328) :
  Calls Tryz.prog 35 #[.slice a bs.length cap] w λe w'=>(∃ao c,e = .returned (.slice ao 20 c)/\Rd w' ao c (dX bs))/\Fr [] w w':=by
 have hw:=ah (qxw a cap bs w h hl);clear h;go_enter Tryz.func35,Tryz.ntmps35;go_wp2_with (go_at_call 69;refine hw.out.mono ?_;rintro e w1 ⟨⟨a1,c1,rfl,r1⟩,f1⟩);go_ret;exact⟨⟨a1,c1,rfl,r1⟩,f1⟩
end sha
namespace delta
open Go Go.RowKit lib
def fk (n:Nat):List UInt8:=if n<=127 then [UInt8.ofNat n] else UInt8.ofNat (n%128+128)::fk (n/128)
termination_by n
decreasing_by omega
theorem SF {n:Nat} (h:n<=127):fk n=[UInt8.ofNat n]:=by rw[fk,if_pos h]
theorem V7 {n:Nat} (h:127<n):fk n=UInt8.ofNat (n%128+128)::fk (n/128):=by rw[fk,if_neg (by omega)]
def vT:Nat->Nat->Nat->List UInt8->Nat×List UInt8×Nat
 | 0,_,_,_=>(0,[],3)
 | _+1,_,_,[]=>(0,[],4)
 | f+1,i,n,c::r=>if c.toNat<128 then (if 2147483647<n+c.toNat%128*128^i then (0,[],3) else (n+c.toNat%128*128^i,r,0)) else vT f (i+1) (n+c.toNat%128*128^i) r
def rd (d:LB):Nat×List UInt8×Nat:=vT 5 0 0 d
def sizes (d:LB):Nat×Nat×List UInt8×Nat:=
 if (rd d).2.2=0 then (if (rd (rd d).2.1).2.2=0 then ((rd d).1,(rd (rd d).2.1).1,(rd (rd d).2.1).2.1,0) else (0,0,[],(rd (rd d).2.1).2.2)) else (0,0,[],(rd d).2.2)
def pl (op:Nat):Nat->Nat->Nat->Nat->List UInt8->Option (Nat×Nat×List UInt8)
 | 0,_,p,n,d=>some (p,(if n=0 then 65536 else n),d)
 | f+1,i,p,n,d=>if op/2^i%2=0 then pl op f (i+1) p n d else match d with
  | []=>none
  | c::r=>if i<4 then pl op f (i+1) (p+c.toNat*256^i) n r else pl op f (i+1) p (n+c.toNat*256^(i-4)) r
def app (base:LB) (tn:Nat):Nat->List UInt8->List UInt8->List UInt8×Nat
 | _,[],out=>if out.length<tn then ([],3) else (out,0)
 | 0,_::_,_=>([],3)
 | f+1,c::r,out=>if 128<=c.toNat then match pl (c.toNat-128) 7 0 0 0 r with
   | none=>([],4)
   | some (p,n,rest)=>if base.length<p\/base.length-p<n\/tn-out.length<n then ([],3) else app base tn f rest (out++(base.drop p).take n)
  else if c.toNat=0\/tn-out.length<c.toNat then ([],3) else if r.length<c.toNat then ([],4) else app base tn f (r.drop c.toNat) (out++r.take c.toNat)
def apply (base d:LB) (bound:Int):List UInt8×Nat:=
 if (sizes d).2.2.2≠0 then ([],(sizes d).2.2.2) else if (sizes d).1≠base.length then ([],3) else if bound.toNat<(sizes d).2.1 then ([],5) else app base (sizes d).2.1 (sizes d).2.2.1.length (sizes d).2.2.1 []
theorem V9:∀(f i n:Nat) (d:LB),∃k,(vT f i n d).2.1.length+k=d.length/\((vT f i n d).2.2=0->(vT f i n d).2.1=d.drop k/\(vT f i n d).1<=2147483647)
 | 0,_,_,d=>⟨d.length,by simp[vT],by simp[vT]⟩
 | f+1,i,n,[]=>⟨0,by simp[vT],by simp[vT]⟩
 | f+1,i,n,c::r=>by
  rw[vT];split
  ·split
   ·exact⟨(c::r).length,by simp,by simp⟩
   ·refine⟨1,by simp,λ_=>⟨by simp,by simp only;omega⟩⟩
  ·obtain⟨k,h1,h2⟩:=V9 f (i+1) (n+c.toNat%128*128^i) r;exact⟨k+1,by simp only[bU];omega,λh=>by simpa using h2 h⟩
theorem qux (d:LB):(sizes d).2.1<=2147483647/\(sizes d).2.2.1.length<=d.length:=by
 obtain⟨k,h1,h2⟩:=V9 5 0 0 d;unfold sizes;split
 ·rename_i h0;obtain⟨k',h3,h4⟩:=V9 5 0 0 (rd d).2.1;split
  ·rename_i h5;refine⟨(h4 h5).2,?_⟩;simp only;unfold rd at *;omega
  ·simp
 ·simp
theorem zc4 (n:Nat):0<(fk n).length:=by rw[fk];split<;>simp
theorem A9 {n:Nat} (h:n<256):(UInt8.ofNat n).toNat=n:=by rw[zk];omega
theorem tA (i:Nat):128^(i+1)=128*128^i:=by rw[pH,mf]
theorem zcp (n:Nat):∀(f i acc:Nat) (r:LB),n<128^(f+1)->acc+n*128^i<=2147483647->vT (f+1) i acc (fk n++r)=(acc+n*128^i,r,0):=by
 induction n using Nat.strongRecOn with
 | ind n ih=>
  intro f i acc r h1 h2;by_cases hn:n<=127
  ·rw[SF hn,List.singleton_append,vT,A9 (by omega),if_pos (by omega),x9 (by omega),if_neg (by omega)]
  ·rw[V7 (by omega),zi,vT,A9 (by omega),if_neg (by omega)];have e1:(n%128+128)%128=n%128:=by omega
   have hp:=tA i;have e2:n%128*128^i+n/128*128^(i+1)=n*128^i:=by rw[hp,<-uk,<-oV];congr 1;omega
   cases f with
   | zero=>simp at h1;omega
   | succ f=>rw[e1,ih (n/128) (by omega) f (i+1) _ r (by rw[tA (f+1)]at h1;exact (Dg (by decide)).2 (by rw[mf];exact h1)) (by omega)];rw[oW,e2]
theorem qyo (n:Nat) (h:n<=2147483647) (r:LB):rd (fk n++r)=(n,r,0):=by have:=zcp n 4 0 0 r (Dj h (by decide)) (by simpa using h);simpa[rd] using this
theorem qwj (n m:Nat) (hn:n<=2147483647) (hm:m<=2147483647) (r:LB):sizes (fk n++(fk m++r))=(n,m,r,0):=by unfold sizes;rw[qyo n hn];simp only[if_true];rw[qyo m hm];simp
end delta
namespace pk
open Go lib
structure ek where
 kind:Nat
 at_:Nat
 size:Nat
 crc:Nat
 data:List UInt8
 base:List UInt8
 off:Nat
def vZ (bs:LB):Nat->Nat->Nat->Nat->Except Nat (Nat×Nat×Nat)
 | 0,_,_,_=>.error 3
 | f+1,i,kind,size=>match bs[i]? with
  | none=>.error 4
  | some c=>
   if i=0 then
    if c.toNat/16%8=0\/c.toNat/16%8=5 then .error 3
    else if 128<=c.toNat then vZ bs f 1 (c.toNat/16%8) (c.toNat%16) else .ok (c.toNat/16%8,c.toNat%16,1)
   else if 128<=c.toNat then vZ bs f (i+1) kind (size+c.toNat%128*2^(7*i-3))
   else if 2147483647<size+c.toNat%128*2^(7*i-3) then .error 3
   else if 65536<size+c.toNat%128*2^(7*i-3) then .error 5
   else .ok (kind,size+c.toNat%128*2^(7*i-3),i+1)
def qt (bs:LB):Except Nat (Nat×Nat×Nat):=vZ bs 5 0 0 0
def Br (bs:LB):Nat->Nat->Nat->Except Nat (Nat×Nat)
 | 0,_,_=>.error 3
 | f+1,i,v=>match bs[i]? with
  | none=>.error 4
  | some c=>if c.toNat<128 then .ok ((if 0<i then (v+1)*128 else 0)+c.toNat%128,i+1) else Br bs f (i+1) ((if 0<i then (v+1)*128 else 0)+c.toNat%128)
def sA (bs:LB):Except Nat (Nat×Nat):=Br bs 5 0 0
def gj (bs:LB) (at_ kind p:Nat):Except Nat (List UInt8×Nat×Nat):=
 if kind=6 then match sA (bs.drop p) with
  | .error e=>.error e
  | .ok (v,k)=>if v<1\/at_<v then .error 3 else .ok ([],at_-v,p+k)
 else if kind=7 then if bs.length-p<20 then .error 4 else .ok (gH ((bs.drop p).take 20),0,p+20)
 else .ok ([],0,p)
def ig (bs:LB) (at_:Nat):Except Nat (ek×Nat):=
 match qt (bs.drop at_) with
 | .error e=>.error e
 | .ok (kind,size,n)=>match gj bs at_ kind (at_+n) with
  | .error e=>.error e
  | .ok (base,off,q)=>match inf.kK (bs.drop q) 65536 with
   | .error e=>.error e
   | .ok (out,k)=>if out.length=size then .ok (⟨kind,at_,size,crc.crc ((bs.drop at_).take (q+k-at_)),out,base,off⟩,q+k) else .error 3
def jx (bs:LB):Nat->Nat->List ek->Except Nat (List ek×Nat)
 | 0,at_,l=>.ok (l,at_)
 | n+1,at_,l=>match ig bs at_ with
  | .error e=>.error e
  | .ok (x,p)=>jx bs n p (l++[x])
def fJ:List UInt8:=[80,65,67,75,0,0,0,2]
def pread (bs:LB):Except Nat (List ek×List UInt8):=
 if 1048576<bs.length then .error 5
 else if bs.take 8≠fJ.take bs.length then .error 3
 else if bs.length<12 then .error 4
 else if 4096<crc.jH ((bs.drop 8).take 4) then .error 5
 else match jx bs (crc.jH ((bs.drop 8).take 4)) 12 [] with
  | .error e=>.error e
  | .ok (l,at_)=>if bs.length-at_<20 then .error 4
   else if (bs.drop at_).take 20≠sha.dX (bs.take at_) then .error 6
   else if at_+20<bs.length then .error 3
   else .ok (l,gH (sha.dX (bs.take at_)))
structure Obj where
 kind:Int
 body:List UInt8
 id:List UInt8
 at_:Int
 crc:Nat
structure Kn where
 kind:Int
 body:List UInt8
 id:List UInt8
def mg (kind:Int) (body:LB):List UInt8:=gH (sha.dX (obj.header kind body.length++body))
def whole (r:ek) (kind:Int) (body:LB):Obj:=⟨kind,body,mg kind body,r.at_,r.crc⟩
abbrev St:=Option (Except Nat (Obj×Nat))
def over (r:ek) (kind:Int) (base:LB) (d:Nat):Except Nat (Obj×Nat):=
 if 50<d+1 then .error 3 else if (delta.apply base r.data 65536).2=0 then .ok (whole r kind (delta.apply base r.data 65536).1,d+1) else .error (delta.apply base r.data 65536).2
def pB (l:List ek) (i off:Nat):Option Nat:=(List.range i).find? λk=>match l[k]? with
 | some y=>y.at_==off
 | none=>false
def uX (id:LB):St->Bool
 | some (.ok (o,_))=>o.id==id
 | _=>false
def eD (l:List ek) (i:Nat) (x:ek):St:=
 if x.kind=6 then (match pB l i x.off with
  | none=>some (.error 3)
  | some _=>none)
 else if x.kind=7 then none else some (.ok (whole x x.kind x.data,0))
def gK (l:List ek):List St:=(List.range l.length).map λi=>match l[i]? with
 | some x=>eD l i x
 | none=>none
def zm (x:ek):St->St
 | none=>none
 | some (.error e)=>some (.error e)
 | some (.ok (o,d))=>some (over x o.kind o.body d)
def sW (l:List ek) (W:List St) (i:Nat) (x:ek):St:=
 if x.kind=6 then (match pB l i x.off with
  | none=>none
  | some k=>zm x (W[k]?.getD none))
 else zm x ((W.find? (uX x.base)).getD none)
def pass (l:List ek):Nat->Nat->List St->Bool->List St×Bool
 | 0,_,W,more=>(W,more)
 | n+1,i,W,more=>match l[i]?,W[i]? with
  | some x,some none=>(match sW l W i x with
   | none=>pass l n (i+1) W more
   | some s=>pass l n (i+1) (W.set i (some s)) true)
  | _,_=>pass l n (i+1) W more
def j6 (kn:List Kn) (id:LB):Option Kn:=kn.find? λk=>k.id==id&&mg k.kind k.body==id
def ask (l:List ek) (kn:List Kn):Nat->Nat->List St->Option (List St)
 | 0,_,_=>none
 | n+1,i,W=>match l[i]?,W[i]? with
  | some x,some none=>if x.kind=7 then (match j6 kn x.base with
    | some k=>some (W.set i (some (over x k.kind k.body 0)))
    | none=>ask l kn n (i+1) W) else ask l kn n (i+1) W
  | _,_=>ask l kn n (i+1) W
def rM (l:List ek) (kn:List Kn):Nat->List St->List St
 | 0,W=>W
 | f+1,W=>if (pass l l.length 0 W false).2 then rM l kn f (pass l l.length 0 W false).1 else match ask l kn l.length 0 (pass l l.length 0 W false).1 with
  | some W2=>rM l kn f W2
  | none=>(pass l l.length 0 W false).1
def gI:List St->Except Nat (List Obj)
 | []=>.ok []
 | none::_=>.error 61
 | some (.error e)::_=>.error e
 | some (.ok (o,_))::t=>match gI t with
  | .error e=>.error e
  | .ok r=>.ok (o::r)
def resolve (l:List ek) (kn:List Kn):Except Nat (List Obj):=gI (rM l kn (l.length+1) (gK l))
theorem M6 (bs:LB):∀(f i kind size:Nat) {k s n:Nat},vZ bs f i kind size = .ok (k,s,n)->i<n/\n<=i+f/\n<=bs.length/\s<=65536
 | 0,i,kind,size,k,s,n,h=>by cases h
 | f+1,i,kind,size,k,s,n,h=>by
  rw[vZ]at h;split at h
  ·cases h
  ·rename_i c hc;have bg:=(jq.1 hc).1;split at h
   ·split at h
    ·cases h
    ·split at h
     ·obtain⟨h1,h2,h3,h4⟩:=M6 bs f _ _ _ h;exact⟨by omega,by omega,h3,h4⟩
     ·simp only[gW,fj]at h;omega
   ·split at h
    ·obtain⟨h1,h2,h3,h4⟩:=M6 bs f _ _ _ h;exact⟨by omega,by omega,h3,h4⟩
    ·split at h
     ·cases h
     ·split at h
      ·cases h
      ·simp only[gW,fj]at h;obtain⟨_,h2,h3⟩:=h;exact⟨by omega,by omega,by omega,by omega⟩
theorem ze5 (bs:LB):∀(f i v:Nat) {x n:Nat},Br bs f i v = .ok (x,n)->i<n/\n<=bs.length
 | 0,i,v,x,n,h=>by cases h
 | f+1,i,v,x,n,h=>by
  rw[Br]at h;split at h
  ·cases h
  ·rename_i c hc;have bg:=(jq.1 hc).1;split at h
   ·simp only[gW,fj]at h;omega
   ·obtain⟨h1,h2⟩:=ze5 bs f _ _ h;exact⟨by omega,h2⟩
theorem qu2 {bs:LB} {at_ kind p:Nat} {base:LB} {off q:Nat} (hp:p<=bs.length) (h:gj bs at_ kind p = .ok (base,off,q)):p<=q/\q<=bs.length/\base.length<=40/\off<=at_:=by
 unfold gj at h;split at h
 ·split at h
  ·cases h
  ·rename_i v k hb;obtain⟨h1,h2⟩:=ze5 _ _ _ _ hb;rw[eV]at h2;split at h
   ·cases h
   ·simp only[gW,fj]at h;obtain⟨rfl,rfl,rfl⟩:=h;exact⟨by omega,by omega,by simp,by omega⟩
 ·split at h
  ·split at h
   ·cases h
   ·simp only[gW,fj]at h;obtain⟨rfl,rfl,rfl⟩:=h;exact⟨by omega,by omega,by rw[eC,dU];omega,by omega⟩
  ·simp only[gW,fj]at h;obtain⟨rfl,rfl,rfl⟩:=h;exact⟨by omega,hp,by simp,by omega⟩
def bO:List St->Nat
 | []=>0
 | none::t=>bO t+1
 | some _::t=>bO t
theorem WI:∀W:List St,bO W<=W.length
 | []=>ay _
 | none::t=>by have:=WI t;simp only[bO,bU];omega
 | some _::t=>by have:=WI t;simp only[bO,bU];omega
theorem Xf:∀(W:List St) (i:Nat) (s:Except Nat (Obj×Nat)),W[i]?=some none->bO (W.set i (some s))+1=bO W
 | [],i,s,h=>by simp at h
 | x::t,0,s,h=>by
  simp only[aT,eJ]at h;subst h;rfl
 | x::t,i+1,s,h=>by
  simp only[bP]at h;have:=Xf t i s h;cases x with
  | none=>simp only[oD,bO];omega
  | some y=>simp only[oD,bO];omega
theorem SU (l:List ek):∀(n i:Nat) (W:List St) (more:Bool),(pass l n i W more).1.length=W.length/\bO (pass l n i W more).1<=bO W/\((pass l n i W more).2=true->more=true\/bO (pass l n i W more).1<bO W)
 | 0,i,W,more=>⟨rfl,ay _,λh=>.inl h⟩
 | n+1,i,W,more=>by
  rw[pass];split
  ·rename_i x hx hW;split
   ·exact SU l n _ _ _
   ·rename_i s hs;obtain⟨h1,h2,h3⟩:=SU l n (i+1) (W.set i (some s)) true;have h4:=Xf W i s hW;refine⟨by rw[h1,KN],by omega,λ_=>.inr (by omega)⟩
  ·exact SU l n _ _ _
theorem SK (l:List ek) (kn:List Kn):∀(n i:Nat) (W:List St) {W2:List St},ask l kn n i W=some W2->W2.length=W.length/\bO W2<bO W
 | 0,i,W,W2,h=>by cases h
 | n+1,i,W,W2,h=>by
  rw[ask]at h;split at h
  ·rename_i x hx hW;split at h
   ·split at h
    ·rename_i k hk;simp only[eJ]at h;have h4:=Xf W i (over x k.kind k.body 0) hW;subst h;exact⟨by rw[KN],by omega⟩
    ·exact SK l kn n _ _ h
   ·exact SK l kn n _ _ h
  ·exact SK l kn n _ _ h
theorem S3 (l:List ek):(gK l).length=l.length:=by unfold gK;simp
theorem W7 (l:List ek) (i:Nat) (x:ek) (h:l[i]?=some x):(gK l)[i]?=some (eD l i x):=by have hi:=(jq.1 h).1;unfold gK;rw[iM,Iv hi];simp only[Aj,h]
theorem Ws (l:List ek) (n i:Nat) (W:List St) (more:Bool) (x:ek) (hx:l[i]?=some x) (s:St) (hW:W[i]?=some s) :
  pass l (n+1) i W more=if s=none then (match sW l W i x with
   | none=>pass l n (i+1) W more
   | some s=>pass l n (i+1) (W.set i (some s)) true) else pass l n (i+1) W more:=by
 cases s with
 | none=>rw[pass,hx,hW];simp<;>rfl
 | some s=>rw[pass,hx,hW];simp
end pk
namespace bits
open Go Go.RowKit lib bm
def Re (T:TypeId) (w:World) (p:Nat) (F:LN) (bs:LB) (at_:Nat):Prop:=
 ∃ao cap,w.heap[p]?=some (.cells #[.slice ao bs.length cap,.int .i64 at_] T (0,0))/\Cs w ao (bs.map bv)/\F=p::af ao/\
  p∉af ao/\bs.length<=140737488351232/\at_<=8*bs.length/\bs.length<=cap/\cap<=maxLen/\(ao=none->cap=0)
abbrev Rd (w:World) (p:Nat) (F:LN) (bs:LB) (at_:Nat):Prop:=Re 264 w p F bs at_
theorem Dd (p:Nat) (F:LN) (bs:LB) (at_:Nat) (n:Int) (w:World) (hR:Rd w p F bs at_) (pL:0<=n) (jM:n<=32) (xm:at_+n<=8*bs.length) :
  Calls Tryz.prog 165 #[.pointer (some ⟨p,0,none⟩),.int .i64 n] w λe w'=>
   e = .returned (.tuple #[.int .u32 (num bs/2^at_%2^n.toNat:Nat),.bool true])/\Rd w' p F bs (at_+n.toNat)/\Fr [p] w w':=by
 obtain⟨ao,cap,hr,hcs,rfl,dV,hlen,bR,cZ,dK⟩:=hR;obtain⟨n,rfl⟩:=Ga pL;have h1:decide ((n:Int)<0)=false:=by simp
 have h2:decide (32<(n:Int))=false:=by simp;omega
 have h3:decide (8*(bs.length:Int)-at_<(n:Int))=false:=by simp;omega
 have c0:=cell_of hr 0;have c1:=cell_of hr 1;simp only[bF,aT,bP]at c0 c1;have Hr:=ah hr;clear hr;go_enter Tryz.func165,Tryz.ntmps165;go_wp2;go_quiet (fail);clear c0 c1;go_wp2;go_loopw [6,7] (λv i wr=>∃k:Nat,k<=n/\i = .int .i64 k/\v = .int .u32 (num bs/2^at_%2^k:Nat)/\
   wr.heap[p]?=some (.cells #[.slice ao bs.length cap,.int .i64 (at_+k:Nat)] 264 (0,0))/\Fr [p] w wr)
  (λ_ i _=>n-(intOf i).toNat)
 case atStart=>exact⟨0,by omega,rfl,by simp[Nat.mod_one],by simpa using Hr.out,Fr.drewN _ _ _⟩
 case round=>
  obtain⟨k,hk,rfl,rfl,eS,hb⟩:=hrel;by_cases hkn:k<n
  ·obtain⟨g,o,rfl,hc⟩:=hcs.at (by simp;omega);have hq:(at_+k)/8<bs.length:=by omega
   have cd:wr.cell? ⟨g,o+(at_+k)/8,none⟩=some (bv (bs.getD ((at_+k)/8) 0)):=by refine hb.cell (hc _ _ ?_) (by simpa[af,eq_comm] using dV);simp[List.getD,hq]
   unfold bv at cd;have c0:=cell_of eS 0;have c1:=cell_of eS 1;have f1:=aW eS 1;simp only[bF,aT,bP]at c0 c1;have MA:=ah eS;clear eS hc;have kA:(bs.getD ((at_+k)/8) 0).toNat<256:=iL _;generalize xB:(bs.getD ((at_+k)/8) 0).toNat=bn at cd kA;have Hbn:=ah xB;clear xB;have hv:num bs/2^at_%2^k<4294967296:=by refine eW (wH _ (nQ _)) ?_;exact kh (by omega) (show k<=32 by omega)
   generalize hvn:num bs/2^at_%2^k=vn at hv ⊢;have Hvn:=ah hvn;clear hvn;go_wp2;all_goals
    go_quiet (fail)
    go_wp2
    go_roundw
    case rel=>
     first
     | exact⟨k+(n-k),by omega,int_eq (by omega),int_eq (qqz bs at_ k (n-k) vn bn hq (by omega) (by omega) Hvn.out Hbn.out),
       (bI (w:=wr.drewN nq) MA.out _).trans (by simp;omega),(hb.jg nq).setCell (by simp) _⟩
     | exact⟨k+(8-(at_+k)%8),by omega,int_eq (by omega),int_eq (qqz bs at_ k (8-(at_+k)%8) vn bn hq (by omega) (by omega) Hvn.out Hbn.out),
       (bI (w:=wr.drewN nq) MA.out _).trans (by simp;omega),(hb.jg nq).setCell (by simp) _⟩
    case measure=>simp[intOf];omega
  ·obtain rfl:k=n:=by omega
   have Zj:Cs wr ao (bs.map bv):=hcs.fr hb (by intro x hx;simp;rintro rfl;exact dV hx);have MA:=ah eS;clear eS hcs;go_wp2;go_ret2;exact⟨by simp,⟨ao,cap,by simpa using MA.out,Zj,rfl,dV,hlen,by simp;omega,cZ,dK⟩,hb⟩
theorem FN (p:Nat) (F:LN) (bs:LB) (at_:Nat) (n:Int) (w:World) (hR:Rd w p F bs at_) (hn:n<0\/32<n\/8*bs.length<at_+n) :
  Calls Tryz.prog 165 #[.pointer (some ⟨p,0,none⟩),.int .i64 n] w λe w'=>
   e = .returned (.tuple #[.int .u32 0,.bool false])/\Rd w' p F bs at_/\Fr [] w w':=by
 obtain⟨ao,cap,hr,hcs,rfl,dV,hlen,bR,cZ,dK⟩:=hR;have c0:=cell_of hr 0;have c1:=cell_of hr 1;simp only[bF,aT,bP]at c0 c1;have Hr:=ah hr;clear hr;have done:∀m,Rd (w.drewN m) p (p::af ao) bs at_:=λm=>⟨ao,cap,Hr.out,hcs,rfl,dV,hlen,bR,cZ,dK⟩
 have Hd:=ah done;clear done;by_cases a1:n<0
 ·have h1:decide (n<0)=true:=by simp;omega
  go_enter Tryz.func165,Tryz.ntmps165;go_wp2;go_quiet (fail);go_wp2;go_ret2;exact⟨rfl,Hd.out _,Fr.drewN _ _ _⟩
 ·have h1:decide (n<0)=false:=by simp;omega
  by_cases a2:32<n
  ·have h2:decide (32<n)=true:=by simp;omega
   go_enter Tryz.func165,Tryz.ntmps165;go_wp2;go_quiet (fail);go_wp2;go_ret2;exact⟨rfl,Hd.out _,Fr.drewN _ _ _⟩
  ·have h2:decide (32<n)=false:=by simp;omega
   have h3:decide (8*(bs.length:Int)-at_<n)=true:=by simp;omega
   go_enter Tryz.func165,Tryz.ntmps165;go_wp2;go_quiet (fail);go_wp2;go_ret2;exact⟨rfl,Hd.out _,Fr.drewN _ _ _⟩
end bits

end Go.Proofs.YtkmpfgpfbmeihaaGreatDoor