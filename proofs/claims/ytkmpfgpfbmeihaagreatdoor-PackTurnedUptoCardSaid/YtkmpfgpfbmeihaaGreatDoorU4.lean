/-
  Texts of this proof, one behind the other: ShaW, MixR, ShaSum, ShaWhole, DeltaLaw, PkLaw, PkLaw2, Take.
-/
import Derived.Test.YtkmpfgpfbmeihaaGreatDoorU3
set_option maxHeartbeats 16000000
set_option maxRecDepth 100000
set_option linter.unusedVariables false
set_option linter.unusedSimpArgs false
namespace Go.Proofs.YtkmpfgpfbmeihaaGreatDoor
namespace sha
open Go Go.RowKit lib bm
structure C8 (C:Array Value) (h:H5) (v:Value) (len:Nat):Prop where
 size:C.size=267
 k:C[0]?=some (.int .i64 1)
 a:C[1]?=some (.int .u32 h.a)
 b:C[2]?=some (.int .u32 h.b)
 c:C[3]?=some (.int .u32 h.c)
 d:C[4]?=some (.int .u32 h.d)
 e:C[5]?=some (.int .u32 h.e)
 r:C[6]?=some v
 n:C[7]?=some (.int .u64 len)
theorem C8.LP {C:Array Value} {h:H5} {v:Value} {len:Nat} (s:C8 C h v len) (u:Value):C8 (C.setIfInBounds 6 u) h u len:=by obtain⟨h1,h2,h3,h4,h5,h6,h7,h8,h9⟩:=s;exact⟨by simp[h1],by rw[aZ (by decide),h2],by rw[aZ (by decide),h3],by rw[aZ (by decide),h4],by rw[aZ (by decide),h5],by rw[aZ (by decide),h6],by rw[aZ (by decide),h7],iu (by omega),by rw[aZ (by decide),h9]⟩
theorem C8.TG {C:Array Value} {h:H5} {v:Value} {len:Nat} (s:C8 C h v len) (l:Nat):C8 (C.setIfInBounds 7 (.int .u64 l)) h v l:=by obtain⟨h1,h2,h3,h4,h5,h6,h7,h8,h9⟩:=s;exact⟨by simp[h1],by rw[aZ (by decide),h2],by rw[aZ (by decide),h3],by rw[aZ (by decide),h4],by rw[aZ (by decide),h5],by rw[aZ (by decide),h6],by rw[aZ (by decide),h7],by rw[aZ (by decide),h8],iu (by omega)⟩
theorem C8.TF {C:Array Value} {h:H5} {v:Value} {len:Nat} (s:C8 C h v len) (a b c d e:Int) :
  C8 (((((C.setIfInBounds 1 (.int .u32 a)).setIfInBounds 2 (.int .u32 b)).setIfInBounds 3 (.int .u32 c)).setIfInBounds 4 (.int .u32 d)).setIfInBounds 5 (.int .u32 e)) ⟨a,b,c,d,e⟩ v len:=by
 obtain⟨h1,h2,h3,h4,h5,h6,h7,h8,h9⟩:=s;exact⟨by simp[h1],by rw[aZ (by decide),aZ (by decide),aZ (by decide),aZ (by decide),aZ (by decide),h2],by rw[aZ (by decide),aZ (by decide),aZ (by decide),aZ (by decide)];exact iu (by simp[h1]),by rw[aZ (by decide),aZ (by decide),aZ (by decide)];exact iu (by simp[h1]),by rw[aZ (by decide),aZ (by decide)];exact iu (by simp[h1]),by rw[aZ (by decide)];exact iu (by simp[h1]),iu (by simp[h1]),by rw[aZ (by decide),aZ (by decide),aZ (by decide),aZ (by decide),aZ (by decide),h8],by rw[aZ (by decide),aZ (by decide),aZ (by decide),aZ (by decide),aZ (by decide),h9]⟩
structure Sh (w:World) (g:Nat) (h:H5) (ra:Option Addr) (rc:Nat) (rs:List UInt8) (len:Nat):Prop where
 ae:∃C,w.heap[g]?=some (.cells C 188 (0,0))/\C8 C h (.slice ra rs.length rc) len
 own:dP w 5 ra rc (rs.map bv)
 ne:g∉lib.ae ra
def leftOf:Nat->List UInt8->List UInt8
 | 0,p=>p
 | f+1,p=>if 64<=p.length then leftOf f (p.drop 64) else p
theorem qre (w:World):Calls Tryz.prog 106 #[.int .i64 1] w λe w'=>e = .returned (.pointer (some ⟨w.heap.size,0,none⟩))/\Sh w' w.heap.size h0 none 0 [] 0/\Fr [] w w':=by go_enter Tryz.func106,Tryz.ntmps106;go_wp2;go_ret;exact⟨rfl,⟨⟨_,bx w _,⟨rfl,rfl,rfl,rfl,rfl,rfl,rfl,rfl,rfl⟩⟩,dP.nil _ _,by simp[lib.ae]⟩,(Fr.refl [] w).alloc _⟩
theorem Vy (g:Nat) (h:H5) (ra:Option Addr) (rc:Nat) (rs:List UInt8) (len cap:Nat) (ao:Option Addr) (bs:List UInt8) (w:World) (hs:Sh w g h ra rc rs len) (hr:Rd w ao cap bs) (FY:bs≠[]->∀x∈lib.ae ao,x≠g)
  (hl:len+bs.length<=140737488355328) (rh:rs.length+bs.length<=140737488355328) :
  Calls Tryz.prog 94 #[.pointer (some ⟨g,0,none⟩),.slice ao bs.length cap] w λe w'=>e = .returned (.tuple #[])/\Fr (g::lib.ae ra) w w'/\
   ∃rZ rY,Sh w' g (blocks (rs++bs).length h (rs++bs)) rZ rY (leftOf (rs++bs).length (rs++bs)) (len+bs.length)/\∀x∈lib.ae rZ,x∈lib.ae ra\/w.heap.size<=x:=by
 obtain⟨L,hL⟩:=ah bs.length;obtain⟨R,hR⟩:=ah rs.length;have hle:=hr.le;have dv:=hr.max;unfold maxLen at dv;obtain⟨C,hC,hc⟩:=hs.ae;obtain⟨o1,o2,o3⟩:=hs.own.shape;rw[cN]at o1;rw[<-hR]at o1 hc rh;rw[<-hL]at hle hl rh ⊢;have c0:=(cell_of hC 0).trans hc.k;have c6:=(cell_of hC 6).trans hc.r;have c7:=(cell_of hC 7).trans hc.n;have z7:=aO hC 7;have H:=cz hC hc hs hr FY hL hR;clear hC hc hs hr FY hL hR;go_enter Tryz.func94,Tryz.ntmps94;go_upto_region 3 with fail;have f1:Fr [g] w (w.setCell ⟨g,7,none⟩ (.int .u64 ((len+L:Nat):Int))):=(Fr.refl [g] w).setCell (by simp) _;have vo:=aX (o:=7) H.o0 (.int .u64 ((len+L:Nat):Int));have cL:=H.o1.TG (len+L);have BW:((len+L:Nat):Int)=(len:Int)+(L:Int):=by omega
 rw[BW]at f1 vo;generalize w.setCell ⟨g,7,none⟩ (.int .u64 ((len:Int)+(L:Int)))=w1 at *;rw[<-BW]at vo;obtain⟨C1,hCC⟩:∃C1,C1=C.setIfInBounds 7 (.int .u64 ((len+L:Nat):Int)):=⟨_,rfl⟩;rw[<-hCC]at vo cL;have c6':=(cell_of vo 6).trans cL.r;have z6:=aO vo 6;have CS:dP w1 5 ra rc (rs.map bv):=H.o2.own.fr f1 (λx hx hm=>by simp at hm;rw[hm]at hx;exact H.o2.ne hx);have vM:Rd w1 ao cap bs:=zF H.o3 f1 (λhb x hx hm=>by simp at hm;exact H.o4 hb x hx hm);have H1:=aP vo cL f1 CS vM;clear vo cL f1 CS vM hCC c0 c6 c7 z7 BW;go_upto_block 1 with (refine AG sums.aq rfl _ _ rfl ra R rc (rs.map bv) rfl H1.o3 (by rw[cN];exact H.l6.symm) ao L cap (bs.map bv) rfl hle H1.l4.nil H1.l4.cs (by rw[cN];exact H.o5.symm) (sums.jQ _) (by omega) (by unfold maxLen;omega) ?_;intro a2 q2 w2 A2;have c62:=A2.fr.cell c6' H.o2.ne;have z62:w2.frozen? ⟨g,6,none⟩=false:=aO (A2.fr.ae H1.o0 H.o2.ne) 6;have H2:=af A2;clear A2);have sB:(rs++bs).length=R+L:=by rw[aK,<-H.l6,<-H.o5]
 have lT:Sh (w2.setCell ⟨g,6,none⟩ (.slice a2 (R+L) q2)) g h a2 q2 (rs++bs) (len+L)/\Fr (g::lib.ae ra) w (w2.setCell ⟨g,6,none⟩ (.slice a2 (R+L) q2))/\∀x∈lib.ae a2,x∈lib.ae ra\/w.heap.size<=x:=by
  have x9:g∉lib.ae a2:=λhm=>by
   rcases H2.out.at_ g hm with k|k
   ·exact H.o2.ne k
   ·have:=lt_of_block H1.o0;omega
  have f6:Fr [g] w2 (w2.setCell ⟨g,6,none⟩ (.slice a2 (R+L) q2)):=(Fr.refl [g] w2).setCell (by simp) _;have jY:=H2.out.fr.ae H1.o0 H.o2.ne;refine⟨⟨⟨_,aX jY _,by rw[sB];exact H1.o1.LP _⟩,by rw[gB];exact H2.out.own.fr f6 (λx hx hm=>by simp at hm;rw[hm]at hx;exact x9 hx),x9⟩,((H1.o2.mono (by simp)).step H2.out.fr (λy hy=>.inl (by simp[hy]))).step f6 (λy hy=>.inl (by simp at hy;simp[hy])),λx hx=>?_⟩;rcases H2.out.at_ x hx with k|k
  ·exact .inl k
  ·exact .inr (bS H1.o2.size k)
 generalize w2.setCell ⟨g,6,none⟩ (.slice a2 (R+L) q2)=w3 at *;have HS:=ak lT sB;clear lT sB c62 z62 c6' z6;go_wp2;go_loopg [] (R+L) (λk wr=>∃(h':H5) (rZ:Option Addr) (rY:Nat) (ps:List UInt8),Sh wr g h' rZ rY ps (len+L)/\Fr (g::lib.ae ra) w wr/\(∀x∈lib.ae rZ,x∈lib.ae ra\/w.heap.size<=x)/\ps.length<=k/\blocks k h' ps=blocks (rs++bs).length h (rs++bs)/\leftOf k ps=leftOf (rs++bs).length (rs++bs));case atStart=>exact⟨h,a2,q2,rs++bs,HS.o0.1,HS.o0.2.1,HS.o0.2.2,by rw[HS.l1];exact aw _,by rw[HS.l1],by rw[HS.l1]⟩
 case round=>
  obtain⟨h',rZ,rY,ps,hs,hf,hn,hk,bK,hdo⟩:=hrel;obtain⟨P,hP⟩:=ah ps.length;obtain⟨C',hC,hc⟩:=hs.ae;obtain⟨Wu,o2',o3'⟩:=hs.own.shape;rw[cN]at Wu;rw[<-hP]at hc hk Wu;have c6:=(cell_of hC 6).trans hc.r;have HR:=lJ hs hf hn bK hdo hP hC hc;clear hs hf hn bK hdo hP;by_cases po:64<=P
  ·obtain⟨k,rfl⟩:∃k,gk=k+1:=⟨gk-1,by omega⟩;have d1:decide ((64:Int)<=P)=true:=by simp;omega
   go_upto_region 5 with fail;have c1:=(cell_of hC 1).trans hc.a;have c2:=(cell_of hC 2).trans hc.b;have c3:=(cell_of hC 3).trans hc.c;have c4:=(cell_of hC 4).trans hc.d;have c5:=(cell_of hC 5).trans hc.e;have hmx:=λw' (f:Fr [] wr w')=>qxj h' rZ P rY ps w' (HR.o0.own.rd.fr f) HR.o5.symm po
   unfold H5.vals at hmx;have HM:=af hmx;clear hmx hC hc;refine jh 12 [(false,0),(false,1),(false,2),(false,3),(false,4),(false,5),(false,6),(false,7),(false,8),(true,9),(false,10),(false,11)] [] (by kernel_rfl) (by kernel_rfl) (λ_ _ d _ _ h=>by cases d<;>exact h) ?_;simp only[iw];refine cS 9 rfl ?_;simp only[aU];repeat (go_big_quiet_step (fail))
   refine wpQuiet_nil ?_;refine ep rfl ?_;intro X hX;go_wp2_with (go_at_call 117;refine (HM.out _ (Fr.av [] wr)).mono ?_;rintro e w5 ⟨rfl,f5⟩);refine hX.out _ _ f5 ?_;clear hX X c1 c2 c3 c4 c5 c6;refine cS 2 rfl ?_;simp only[aU];repeat (go_big_quiet_step (fail))
   refine wpQuiet_nil ?_;refine fE ?_;have nO:=f5.ae (show wr.drew.heap[g]?=_ from HR.o6) (by simp);have kv:=HR.l7;have c1:=(cell_of nO 1).trans kv.a;have c2:=(cell_of nO 2).trans kv.b;have c3:=(cell_of nO 3).trans kv.c;have c4:=(cell_of nO 4).trans kv.d;have c5:=(cell_of nO 5).trans kv.e;have z1:=aO nO 1;have z2:=aO nO 2;have z3:=aO nO 3;have z4:=aO nO 4;have z5:=aO nO 5;obtain⟨mh,Xx⟩:=ah (j9 h' ps);rw[<-Xx];obtain⟨ma,mb,mc,md,me⟩:=mh;simp only;have Dh:=aF nO kv f5 Xx;clear nO kv f5 Xx;go_upto_region 6 with fail;have f6:Fr [g] w5 (((((w5.setCell ⟨g,1,none⟩ (.int .u32 ma)).setCell ⟨g,2,none⟩ (.int .u32 mb)).setCell ⟨g,3,none⟩ (.int .u32 mc)).setCell ⟨g,4,none⟩ (.int .u32 md)).setCell ⟨g,5,none⟩ (.int .u32 me)):=(((((Fr.refl [g] w5).setCell (by simp) _).setCell (by simp) _).setCell (by simp) _).setCell (by simp) _).setCell (by simp) _;have rQ:=aX (o:=5) (aX (o:=4) (aX (o:=3) (aX (o:=2) (aX (o:=1) Dh.o0 (.int .u32 ma)) (.int .u32 mb)) (.int .u32 mc)) (.int .u32 md)) (.int .u32 me);have Yf:=Dh.o1.TF ma mb mc md me;clear c1 c2 c3 c4 c5 z1 z2 z3 z4 z5;generalize ((((w5.setCell ⟨g,1,none⟩ (.int .u32 ma)).setCell ⟨g,2,none⟩ (.int .u32 mb)).setCell ⟨g,3,none⟩ (.int .u32 mc)).setCell ⟨g,4,none⟩ (.int .u32 md)).setCell ⟨g,5,none⟩ (.int .u32 me)=w6 at *;have c6:=(cell_of rQ 6).trans Yf.r;have z6:=aO rQ 6;have H6:=au rQ Yf f6;clear rQ Yf f6;have Bx:aL rZ rY 64 1=if rY=64 then rZ else Option.map (λx=>x.add (64*1)) rZ:=rfl
   have HCA:=af Bx;clear Bx;go_wp2_with (refine vK sums.aq 64 rfl _ _ rfl rZ P rY _ rfl rfl rfl po Wu ?_);go_roundg k;case measure=>omega
   case rel=>
    have f7:Fr [g] w6 (w6.setCell ⟨g,6,none⟩ (.slice (aL rZ rY 64 1) (P-64) (rY-64))):=(Fr.refl [g] w6).setCell (by simp) _;have ic:(ps.drop 64).length=P-64:=by rw[eQ,<-HR.o5]
    have BU:Fr (g::lib.ae ra) w (w6.setCell ⟨g,6,none⟩ (.slice (aL rZ rY 64 1) (P-64) (rY-64))):=(((HR.o1.trans ((Fr.av [] wr).mono (by simp))).trans (Dh.o2.mono (by simp))).step H6.l2 (λy hy=>.inl (by simp at hy;simp[hy]))).step f7 (λy hy=>.inl (by simp at hy;simp[hy]));have bR:g∉lib.ae (aL rZ rY 64 1):=by rw[Rx];exact HR.o0.ne
    have how:dP (w6.setCell ⟨g,6,none⟩ (.slice (aL rZ rY 64 1) (P-64) (rY-64))) 5 (aL rZ rY 64 1) (rY-64) ((ps.drop 64).map bv):=by have h1:=((HR.o0.own.fr (Fr.av [] wr) (by simp)).fr Dh.o2 (by simp)).drop 64 (by rw[cN,<-HR.o5];exact po);rw[<-G1]at h1;exact (h1.fr H6.l2 (λx hx hm=>by simp at hm;rw[hm]at hx;exact bR hx)).fr f7 (λx hx hm=>by simp at hm;rw[hm]at hx;exact bR hx)
    refine⟨⟨ma,mb,mc,md,me⟩,_,_,ps.drop 64,⟨⟨_,aX H6.o0 _,by rw[ic];exact H6.o1.LP _⟩,how,bR⟩,BU,λx hx=>HR.o2 x (by rw[Rx]at hx;exact hx),by rw[ic];omega,?_,?_⟩
    ·have:=HR.o3;rw[blocks,if_pos (by rw[<-HR.o5];exact po),<-Dh.l3]at this;exact this
    ·have:=HR.o4;rw[leftOf,if_pos (by rw[<-HR.o5];exact po)]at this;exact this
  ·have d1:decide ((64:Int)<=P)=false:=by simp;omega
   have yg:blocks gk h' ps=h':=by
    cases gk with
    | zero=>rfl
    | succ k=>rw[blocks,if_neg (by rw[<-HR.o5];exact po)]
   have Jc:leftOf gk ps=ps:=by
    cases gk with
    | zero=>rfl
    | succ k=>rw[leftOf,if_neg (by rw[<-HR.o5];exact po)]
   have HZ:=ak yg Jc;clear yg Jc hC hc;go_wp2;go_end0;refine⟨rfl,HR.o1,rZ,rY,?_,HR.o2⟩;rw[<-HR.o3,<-HR.o4,HZ.o0,HZ.l1];exact HR.o0
end sha
namespace lib
open Go
theorem Fr.aS {S:List Nat} {w w':World} (h:Fr S w w'):Fr S w.drew w':=⟨h.os,h.tape,h.output,h.size,h.block⟩
section
variable {P : Program} {ops : Array Oper} {Q : Exit -> Act -> World -> Prop} {md : Region.Mode}
def lQ (P:Program) (ops:Array Oper) (S:List Nat) (Q:Exit->Act->World->Prop) (tail:List Oper):List (Bool×Oper)->World->Act->World->Prop
 | [],_,a,w=>wpList P ops Q tail a w
 | (false,o)::rest,b,a,w=>if Region.wanted o (yielded ops a.tmps) then o.quiet P a (fC S b) (λa'=>lQ P ops S Q tail rest b a' w) else lQ P ops S Q tail rest b (a.put o.dst undef) w
 | (true,o)::rest,b,a,w=>if Region.wanted o (yielded ops a.tmps) then o.wp P a w (λa' w'=>∃b',Fr S b b'/\Fr S b' w'/\lQ P ops S Q tail rest b' a' w') Q else lQ P ops S Q tail rest b (a.put o.dst undef) w
theorem Ml {n:Nat} {S:List Nat} {l:List Oper} (hl:ops=l.toArray) (ck:Region.noSelect ops=true) (hQ:∀c a d v w,Q (.panic c) (Act.put a d v) w->Q (.panic c) a w)
  (hT:∀i,i<n->∀listed,HeadInv md ops n listed->listed.getD i true=false->∀t,n<=t->t∉Region.ready md ops listed) :
  ∀(order:List (Bool×Nat)) (listed:Array Bool) (b:World) (a:Act) (w:World),Fr S b w->HeadInv md ops n listed->yX md ops n order listed=true->
   lQ P ops S Q (l.drop n) (order.map λx=>(x.1,l.getD x.2 default)) b a w->mI P md ops Q n (fC S b) (order.length+(ops.size-n)) listed a w
 | [],listed,b,a,w,_,_,hB,h=>by
  have hlen:(l.drop n).length=ops.size-n:=by rw[hl];simp
  have:=RW (P:=P) (Q:=Q) (md:=md) (ops:=ops) (n:=n) (C:=fC S b) (l.drop n) n listed a w (aw _) (λj=>by rw[hl];simp[CH]) (by rw[hlen];exact hB) h;simpa[hlen] using this
 | (e,i)::rest,listed,b,a,w,dU,inv,hB,h=>by
  simp only[yX,lM,decide_eq_true_eq]at hB;obtain⟨⟨dz,he⟩,aG⟩:=hB;have hlen:((e,i)::rest).length+(ops.size-n)=rest.length+(ops.size-n)+1:=by simp;omega
  rw[hlen];have hC:fC S b w:=fC.of dU;cases e with
  | false=>
   simp only[lM]at he;obtain⟨⟨hr,hf⟩,hk⟩:=he;have eX:i∈Region.ready md ops listed:=by simpa using hr
   obtain⟨_,oi,dE,_⟩:=mem_ready.1 eX;rw[dE]at hk;have hd:l.getD i default=oi:=by rw[hl]at dE;simp at dE;simp[List.getD,dE]
   simp only[gW,hd,lQ]at h;by_cases hw:Region.wanted oi (yielded ops a.tmps)=true
   ·rw[if_pos hw]at h;obtain⟨v,h1,h2⟩:=h;have hy:QY P ops (fC S b) oi v a:=.inl ⟨hw,λu hu=>MV hk (h1 u hu)⟩;exact RL dE (CF ck) hQ dz (hT i dz) _ listed a w inv (CB dE hf) eX hy hC (Ml hl ck hQ hT rest _ b _ w dU (inv.set eX dz) aG h2)
   ·rw[if_neg hw]at h;have hy:QY P ops (fC S b) oi undef a:=.inr ⟨by simpa using hw,rfl⟩;exact RL dE (CF ck) hQ dz (hT i dz) _ listed a w inv (CB dE hf) eX hy hC (Ml hl ck hQ hT rest _ b _ w dU (inv.set eX dz) aG h)
  | true=>
   simp only[decide_eq_true_eq]at he;have eX:i∈Region.ready md ops listed:=by rw[he];simp
   obtain⟨_,oi,dE,_⟩:=mem_ready.1 eX;have hd:l.getD i default=oi:=by rw[hl]at dE;simp at dE;simp[List.getD,dE]
   simp only[gW,hd,lQ]at h;refine⟨λh0=>(by rw[h0]at eX;cases eX),λj hj=>?_⟩;rw[he]at hj;have ia:j=i:=by simpa using hj
   subst ia;unfold wpOp;simp only[dE];by_cases hw:Region.wanted oi (yielded ops a.tmps)=true
   ·rw[if_pos hw]at h;rw[if_pos hw];left;exact Oper.wp_mono (λa' w' h'=>by
     obtain⟨b',g1,g2,h'⟩:=h'
     exact⟨λ_=>fC.of (g1.trans g2),Rp (fC.sub g1) _ _ _ _ (Ml hl ck hQ hT rest _ b' a' w' g2 (inv.set eX dz) aG h')⟩) h
   ·rw[if_neg hw]at h;rw[if_neg hw];exact⟨λ_=>hC,Ml hl ck hQ hT rest _ b _ w dU (inv.set eX dz) aG h⟩
theorem RP {id:Nat} {a:Act} {w:World} {l:List Oper} (n:Nat) (order:List (Bool×Nat)) (S:List Nat) (hm:P.follows .mixedOrders=true) (hB:sW .any l.toArray n order=true)
  (hQ:∀c a d v w,Q (.panic c) (Act.put a d v) w->Q (.panic c) a w)
  (h:lQ P l.toArray S Q (l.drop n) (order.map λx=>(x.1,l.getD x.2 default)) w.drew a w.drew):(Code.region id l.toArray true).wp P Q a w:=by
 simp only[sW,lM,decide_eq_true_eq,Bool.or_eq_true]at hB;obtain⟨⟨⟨ck,hn⟩,hlen⟩,wS⟩:=hB;have AR:HeadInv .any l.toArray n (Array.replicate l.toArray.size false):=
  ⟨by simp,λj oj _ hl=>(by rw[getD_replicate_false]at hl;cases hl),λt _ ht=>getD_in (by simpa using ht) (getD_replicate_false _ _)⟩
 have hT:∀i,i<n->∀listed,HeadInv .any l.toArray n listed->listed.getD i true=false->∀t,n<=t->t∉Region.ready .any l.toArray listed:=by
  intro i hi listed inv nK t ht hr;rcases hn with hn|⟨⟨hn,hs⟩,hc⟩
  ·obtain⟨_,o,ho,_⟩:=mem_ready.1 hr;have:=(FE.1 ho).1;omega
  ·exact tail_waits hs hc hn inv _ i rfl hi nK t ht hr
 refine wp_region_any hm (RV (n:=n) (C:=fC S w.drew) _ _ _ _ ?_);have:=Ml (P:=P) (Q:=Q) (md:=.any) (n:=n) (S:=S) rfl ck hQ hT order _ w.drew a w.drew (Fr.refl _ _) AR wS h;rw[hlen]at this;exact this
theorem Fj {S:List Nat} {tail:List Oper} {items:List (Bool×Oper)} {b:World} {a:Act} {w:World} (k:Nat) (h0:((items.take k).all λx=>!x.1)=true)
  (h:wpQuiet P ops (fC S b) (λa'=>lQ P ops S Q tail (items.drop k) b a' w) ((items.take k).map (·.2)) a):lQ P ops S Q tail items b a w:=by
 induction k generalizing items a with
 | zero=>exact h
 | succ k ih=>
  cases items with
  | nil=>exact h
  | cons x rest=>
   obtain⟨e,o⟩:=x;simp only[qY,List.all_cons,lM,Bool.not_eq_true']at h0;obtain⟨rfl,h0⟩:=h0;simp only[qY,gW,xH,wpQuiet]at h;unfold lQ;by_cases hw:Region.wanted o (yielded ops a.tmps)=true
   ·rw[if_pos hw]at h ⊢;obtain⟨v,h1,h2⟩:=h;exact⟨v,h1,ih h0 h2⟩
   ·rw[if_neg hw]at h ⊢;exact ih h0 h
theorem Dz {S:List Nat} {tail:List Oper} {rest:List (Bool×Oper)} {o:Oper} {b:World} {a:Act} {w:World} (hw:Region.wanted o (yielded ops a.tmps)=true)
  (h:∀K:Act->World->Prop,Go.RowKit.Hid (∀a' w' b',Fr S b b'->Fr S b' w'->lQ P ops S Q tail rest b' a' w'->K a' w')->o.wp P a w K Q):lQ P ops S Q tail ((true,o)::rest) b a w:=by
 unfold lQ;rw[if_pos hw];exact h _ λ_ _ b' h1 h2 h3=>⟨b',h1,h2,h3⟩
theorem Rh {S:List Nat} {tail:List Oper} {b:World} {a:Act} {w:World} (h:wpList P ops Q tail a w):lQ P ops S Q tail [] b a w:=h
end
end lib
namespace sha
open Go Go.RowKit lib bm
def vF (n:Nat):Nat:=(56+64-n%64)%64
def oo (rs:List UInt8):List UInt8:=rs++[128]++List.replicate (vF (rs.length+1)) 0
def cZ (rs:List UInt8) (len:Nat):List UInt8:=oo rs++sums.gh (len/536870912)++sums.gh (len*8%4294967296)
theorem qqj (rs:List UInt8):(oo rs).length%64=56:=by unfold oo vF;simp only[aK,yR,Hy];omega
theorem qjt (rs:List UInt8) (len:Nat):(cZ rs len).length%64=0:=by have:=qqj rs;unfold cZ;rw[aK,aK,sums.yL,sums.yL];omega
def GG (h:H5):Prop:=(0<=h.a/\h.a<4294967296)/\(0<=h.b/\h.b<4294967296)/\(0<=h.c/\h.c<4294967296)/\(0<=h.d/\h.d<4294967296)/\(0<=h.e/\h.e<4294967296)
theorem My (a b:Int):0<=cH a b/\cH a b<4294967296:=by unfold cH;omega
theorem U2 (h:H5) (p:List UInt8):GG (j9 h p):=⟨My _ _,My _ _,My _ _,My _ _,My _ _⟩
theorem TV:GG h0:=by unfold GG h0;decide
theorem Rw:∀(f:Nat) (h:H5) (p:List UInt8),GG h->GG (blocks f h p)
 | 0,_,_,h=>h
 | f+1,h,p,hr=>by
  rw[blocks];split
  ·exact Rw f _ _ (U2 h p)
  ·exact hr
def vu (h:H5):List UInt8:=sums.gh h.a.toNat++sums.gh h.b.toNat++sums.gh h.c.toNat++sums.gh h.d.toNat++sums.gh h.e.toNat
theorem qwb (g:Nat) (h:H5) (ra:Option Addr) (rc:Nat) (rs:List UInt8) (len:Nat) (w:World) (hs:Sh w g h ra rc rs len) (rh:rs.length<64) (Xb:GG h) (hlen:len<=140737488355328) :
  Calls Tryz.prog 96 #[.pointer (some ⟨g,0,none⟩)] w λe w'=>(∃ao c,e = .returned (.slice ao 20 c)/\Rd w' ao c (vu (blocks (cZ rs len).length h (cZ rs len))))/\Fr [] w w':=by
 obtain⟨R,hR⟩:=ah rs.length;obtain⟨C,hC,hc⟩:=hs.ae;obtain⟨o1,o2,o3⟩:=hs.own.shape;rw[cN,<-hR]at o1;rw[<-hR]at hc rh;have c0:=(cell_of hC 0).trans hc.k;have c6:=(cell_of hC 6).trans hc.r;have bP:=hs.own.rd;have H:=aP hC hc hs hR bP;clear hC hc hs hR bP;go_enter Tryz.func96,Tryz.ntmps96;have pE:True:=trivial;go_upto_block 1 with (first|(have _t:=pE;refine AG sums.aq rfl _ _ rfl none 0 0 [] rfl (dP.nil _ _) rfl ra R rc (rs.map bv) rfl o1 o3 H.l4.cs (by rw[cN];exact H.o3.symm) (sums.jQ _) (by omega) (by unfold maxLen;omega) ?_;intro a1 q1 w1 A1;rw[vI]at A1;have H1:=af A1;clear A1;clear pE _t)|(refine AG sums.aq rfl _ _ rfl a1 R q1 (rs.map bv) rfl (H1.out.own.fr ((Fr.refl [] w1).alloc (.cells #[.int .u8 128] 5)) (by simp)) (by rw[cN];exact H.o3.symm) (some ⟨w1.heap.size,0,none⟩) 1 1 [.int .u8 128] rfl (by omega) (by simp) (zE w1 _ _ _) rfl (by simp[Value.oneCell']) (by omega) (by unfold maxLen;omega) ?_;intro a2 q2 w2 A2;have H2:=af A2;clear A2));have zT:Fr [] w w2:=((H1.out.fr.mono (T:=[]) (by simp[lib.ae])).trans ((Fr.refl [] w1).alloc (.cells #[.int .u8 128] 5))).step H2.out.fr (λy hy=>by
  rcases H1.out.at_ y hy with k|k
  ·simp[lib.ae]at k
  ·exact .inr k)
 have uT:∀x∈lib.ae a2,w.heap.size<=x:=λx hx=>by
  have h1:=H1.out.fr.size;rcases H2.out.at_ x hx with k|k
  ·rcases H1.out.at_ x k with k2|k2
   ·simp[lib.ae]at k2
   ·exact k2
  ·rw[eZ]at k;omega
 have oy:dP w2 5 a2 q2 ((rs++[128]).map bv):=by rw[gB];exact H2.out.own
 obtain⟨Z,hZ⟩:=ah (vF (R+1));have SR:Z<64/\(R+1+Z)%64=56:=by rw[hZ];unfold vF;omega
 have HW:=aF zT uT oy hZ;clear zT uT oy hZ c6 H1 H2;go_wp2;go_loopg [3] Z (λk s3 wr=>∃(j N:Nat) (a:Option Addr) (q:Nat),s3 = .slice a N q/\N=R+1+j/\j+k=Z/\dP wr 5 a q ((rs++[128]++List.replicate j 0).map bv)/\Fr [] w wr/\∀x∈lib.ae a,w.heap.size<=x);case atStart=>exact⟨0,R+1,a2,q2,rfl,rfl,by omega,by simpa using HW.o2,HW.o0,HW.o1⟩
 case round=>
  obtain⟨j,N,a,q,rfl,hN,eG,aA,hf,fu⟩:=hrel;obtain⟨p1,p2,p3⟩:=aA.shape;have oz:(rs++[128]++List.replicate j (0:UInt8)).length=N:=by simp only[aK,yR,Hy];rw[<-H.o3,hN]
  rw[cN,oz]at p1;have HR:=aF aA hf fu oz;clear aA hf fu oz;by_cases hj:j<Z
  ·obtain⟨k,rfl⟩:∃k,gk=k+1:=⟨gk-1,by omega⟩;have bR:¬(N%64=56):=by omega
   have d1:((N:Int)%64 !=56)=true:=by simp;omega
   have HN:=ak hN eG;have YC:N<=200:=by omega
   clear bR hN eG;go_wp2_with (refine AG sums.aq rfl _ _ rfl a N q ((rs++[128]++List.replicate j 0).map bv) rfl (HR.o0.fr ((Fr.refl [] wr).alloc (.cells #[.int .u8 0] 5)) (by simp)) (by rw[cN];exact HR.l3) (some ⟨wr.heap.size,0,none⟩) 1 1 [.int .u8 0] rfl (by omega) (by simp) (zE wr _ _ _) rfl (by simp[Value.oneCell']) (by omega) (by unfold maxLen;omega) ?_;intro a4 q4 w4 A4;have H4:=af A4;clear A4);go_roundg k;case measure=>omega
   case rel=>
    obtain⟨hN,eG⟩:=HN.out;refine⟨j+1,N+1,a4,q4,rfl,by omega,by omega,?_,(HR.o1.trans ((Fr.refl [] wr).alloc (.cells #[.int .u8 0] 5))).step H4.out.fr (λy hy=>.inr (HR.o2 y hy)),λx hx=>?_⟩
    ·rw[Hx,<-gH,gB];exact H4.out.own
    ·have h1:=HR.o1.size;rcases H4.out.at_ x hx with k|k
     ·exact HR.o2 x k
     ·rw[eZ]at k;omega
  ·obtain rfl:j=Z:=by omega
   obtain rfl:gk=0:=by omega
   have d1:((N:Int)%64 !=56)=false:=by simp;omega
   have YC:N<=200:=by omega
   have HN:=af hN;clear hN eG;go_upto_region 9 with fail;clear d1;obtain⟨x1,dT⟩:∃x,x=len/536870912:=⟨_,rfl⟩;obtain⟨x2,jU⟩:∃x,x=len*8%4294967296:=⟨_,rfl⟩;have e1:(len:Int)/536870912=(x1:Int):=by omega
   have e2:((len:Int)*8)%4294967296=(x2:Int):=by omega
   obtain⟨bs,oD⟩:∃bs,bs=rs++[128]++List.replicate j (0:UInt8):=⟨_,rfl⟩;have hpt:bs=oo rs:=by rw[oD,oo,<-H.o3,<-HW.l3]
   have bK:bs.length=N:=by rw[oD];exact HR.l3
   have vO:=HR.o0;rw[<-oD]at vO;have BG:=HR.o1.ae H.o0 (by simp);have SF:g<w.heap.size:=lt_of_block H.o0;have XV:g∉lib.ae a:=λhm=>by have:=HR.o2 g hm;omega
   obtain⟨S,hS⟩:=ah (lib.ae a);have s7:∀x,(sup S wr.drew x).cell? ⟨g,7,none⟩=some (.int .u64 len):=λx=>(dk S wr.drew x).cell (show wr.drew.cell? _=_ from (cell_of BG 7).trans H.o1.n) (by rw[hS];exact XV)
   have fO:Calls Tryz.prog 119 #[.slice a N q,.int .u32 x1] wr.drew (sums.jO wr.drew a bs x1):=by have:=sums.Mv a q bs x1 wr.drew (by omega) vO (by omega);rw[bK]at this;exact this
   have dK:=λw' a' q' (ho:dP w' 5 a' q' ((bs++sums.gh x1).map bv))=>sums.Mv a' q' (bs++sums.gh x1) x2 w' (by omega) ho (by rw[aK,sums.yL];omega)
   rw[show (bs++sums.gh x1).length=N+4 from by rw[aK,sums.yL,bK]]at dK;unfold sums.jO at fO dK;rw[bK]at fO;have Nt:x2<4294967296:=by omega
   have HF:=oG fO dK BG XV hS hpt bK dT jU;clear fO dK BG XV hS hpt bK oD vO dT jU;refine RP 16 [(false,0),(false,1),(false,2),(false,3),(false,4),(false,5),(false,6),(false,8),(false,9),(false,10),(false,11),(false,12),(false,13),(true,7),(true,14),(false,15)] S (by kernel_rfl) (by kernel_rfl) (λ_ _ d _ _ h=>by cases d<;>exact h) ?_;simp only[iw];refine Fj 13 rfl ?_;simp only[aU];repeat (go_big_quiet_step (fail))
   refine wpQuiet_nil ?_;have EV:=af e2;clear s7 e1 e2;refine Dz rfl ?_;intro X hX;go_wp2_with (go_at_call 119;refine HF.o0.mono ?_;rintro e w5 ⟨a5,q5,rfl,A5⟩);have JF:Fr S wr.drew w5:=by rw[HF.o4];exact A5.fr
   refine hX.out _ _ wr.drew (Fr.refl _ _) JF ?_;clear hX X;have Tp:=af A5;clear A5;refine Dz rfl ?_;intro X hX;have dK:=HF.o1 _ a5 q5 Tp.out.own;rw[<-EV.out,show (bs++sums.gh x1).length=N+4 from by rw[aK,sums.yL,HF.o6]]at dK;have Tn:=af dK;clear dK;go_wp2_with (go_at_call 119;go_loud (with_reducible refine Tn.out.mono ?_);rintro e w6 ⟨a6,q6,rfl,A6⟩);have JE:Fr S wr.drew w6:=JF.step A6.fr λy hy=>by
    rcases Tp.out.at_ y hy with k|k
    ·exact .inl (by rw[HF.o4];exact k)
    ·exact .inr k
   refine hX.out _ _ wr.drew (Fr.refl _ _) JE ?_;clear hX X;have Zy:=af A6;clear A6;refine Fj 1 rfl ?_;simp only[aU];repeat (go_big_quiet_step (fail))
   refine wpQuiet_nil ?_;refine Rh ?_;have GA:Fr [] w w6:=(HR.o1.trans (Fr.av [] wr)).step JE (λy hy=>.inr (by rw[HF.o4]at hy;exact HR.o2 y hy));have BG:=GA.ae H.o0 (by simp);have c1:=(cell_of BG 1).trans H.o1.a;have c2:=(cell_of BG 2).trans H.o1.b;have c3:=(cell_of BG 3).trans H.o1.c;have c4:=(cell_of BG 4).trans H.o1.d;have c5:=(cell_of BG 5).trans H.o1.e;obtain⟨pd,uR⟩:=ah (cZ rs len);have II:bs++sums.gh x1++sums.gh x2=pd:=by rw[uR,cZ,HF.o5,HF.o7,HF.l8]
   have fN:pd.length=N+4+4:=by rw[<-II,aK,aK,sums.yL,sums.yL,HF.o6]
   have Ed:pd.length%64=0:=by rw[uR];exact qjt rs len
   have tW:dP w6 5 a6 q6 (pd.map bv):=by rw[<-II];exact Zy.out.own
   have hnp:∀x∈lib.ae a6,w.heap.size<=x:=λx hx=>by
    have k0:=HR.o1.size;rcases Zy.out.at_ x hx with k|k
    ·rcases Tp.out.at_ x k with k2|k2
     ·exact HR.o2 x k2
     ·exact bS k0 k2
    ·exact bS (bS k0 JF.size) k
   rw[<-fN];have HP:=bJ GA tW hnp uR fN Ed;clear GA tW hnp uR fN Ed II BG JF JE Tp Zy;go_upto_block 3 with fail;clear c1 c2 c3 c4 c5;obtain⟨Q,w7,hQ,CO,f7,b7⟩:∃Q w7,Q=w6.heap.size/\w7=w6.alloc (.cells #[.int .u32 h.a,.int .u32 h.b,.int .u32 h.c,.int .u32 h.d,.int .u32 h.e] 185)/\Fr [] w6 w7/\w7.heap[Q]?=some (.cells h.vals 185 (0,0)):=⟨_,_,rfl,rfl,(Fr.refl [] w6).alloc _,bx w6 _⟩;rw[<-CO,<-hQ];have H7:=au f7 b7 hQ;clear CO hQ f7 b7;go_wp2;go_loopg [3] pd.length (λk s3 wr=>∃(h':H5) (ps:List UInt8) (P:Nat) (a:Option Addr) (q:Nat),s3 = .slice a P q/\P=ps.length/\P%64=0/\P<=k/\dP w7 5 a q (ps.map bv)/\Q∉lib.ae a/\wr.heap[Q]?=some (.cells h'.vals 185 (0,0))/\Fr [Q] w7 wr/\GG h'/\blocks k h' ps=blocks pd.length h pd);case atStart=>exact⟨h,pd,pd.length,a6,q6,rfl,rfl,HP.l5,aw _,HP.o1.fr H7.o0 (by simp),λhm=>by have:=HP.o1.lt _ hm;rw[H7.l2]at this;omega,H7.o1,Fr.refl _ _,Xb,rfl⟩
   case round=>
    obtain⟨h',ps,P,a,q,rfl,hP,Ju,hPk,aA,Yy,Gq,hf,Lc,bK⟩:=hrel;obtain⟨p1,p2,p3⟩:=aA.shape;rw[cN,<-hP]at p1;have HL:=lJ aA Yy Gq hf Lc bK hP Ju;have c0:=cell_of Gq 0;have c1:=cell_of Gq 1;have c2:=cell_of Gq 2;have c3:=cell_of Gq 3;have c4:=cell_of Gq 4;unfold H5.vals at c0 c1 c2 c3 c4;simp only[bw,aV,bN]at c0 c1 c2 c3 c4;by_cases h0:0<P
    ·have po:64<=P:=by omega
     obtain⟨k,rfl⟩:∃k,gk=k+1:=⟨gk-1,by omega⟩;clear aA Yy Gq hf Lc bK hP Ju;have hmx:=qxj h' a P q ps wr (HL.o0.fr HL.o3 (λx hx hm=>by simp at hm;rw[hm]at hx;exact HL.o1 hx)).rd HL.o6.symm po;unfold H5.vals at hmx;have HM:=af hmx;clear hmx;go_wp2_with (first|(go_at_call 117;refine HM.out.mono ?_;rintro e w8 ⟨rfl,f8⟩;have qC:=f8.ae HL.o2 (by simp);have d0:=cell_of qC 0;have d1:=cell_of qC 1;have d2:=cell_of qC 2;have d3:=cell_of qC 3;have d4:=cell_of qC 4;have y0:=aO qC 0;have y1:=aO qC 1;have y2:=aO qC 2;have y3:=aO qC 3;have y4:=aO qC 4;unfold H5.vals at d0 d1 d2 d3 d4;simp only[bw,aV,bN]at d0 d1 d2 d3 d4;have H8:=ak f8 qC;clear f8 qC c0 c1 c2 c3 c4)|(refine vK sums.aq 64 rfl _ _ rfl a P q _ rfl rfl rfl po p1 ?_));obtain⟨k1,k2⟩:=gj H8.out.2 (.int .u32 (j9 h' ps).a) (.int .u32 (j9 h' ps).b) (.int .u32 (j9 h' ps).c) (.int .u32 (j9 h' ps).d) (.int .u32 (j9 h' ps).e);have HK:=ak k1 k2;clear k1 k2;go_roundg k;case measure=>omega
     case rel=>have hd:=HL.o0.drop 64 (by rw[cN,<-HL.o6];exact po);rw[<-G1]at hd;refine⟨j9 h' ps,ps.drop 64,P-64,_,_,rfl,by rw[eQ,<-HL.o6],by have:=HL.l7;omega,by omega,hd,by rw[Rx];exact HL.o1,HK.out.1,(HL.o3.trans (H8.out.1.mono (by simp))).trans HK.out.2,U2 _ _,?_⟩;have:=HL.o5;rw[blocks,if_pos (by rw[<-HL.o6];exact po)]at this;exact this
    ·have Lp:blocks gk h' ps=h':=by
      cases gk with
      | zero=>rfl
      | succ k=>rw[blocks,if_neg (by rw[<-hP];omega)]
     rw[Lp]at bK;obtain⟨ha,hb,hc,hd,he⟩:=h';obtain⟨⟨r1,l1⟩,⟨r2,l2⟩,⟨r3,l3⟩,⟨r4,l4⟩,⟨r5,l5⟩⟩:=Lc;simp only at r1 r2 r3 r4 r5 l1 l2 l3 l4 l5 c0 c1 c2 c3 c4;obtain⟨na,rfl⟩:=FF r1;obtain⟨nb,rfl⟩:=FF r2;obtain⟨nc,rfl⟩:=FF r3;obtain⟨nd,rfl⟩:=FF r4;obtain⟨ne,rfl⟩:=FF r5;have vU:Fr [] w wr:=(HP.o0.trans H7.o0).step hf (λy hy=>.inr (by simp at hy;rw[hy,H7.l2];exact HP.o0.size));have OY:vu (blocks pd.length h pd)=sums.gh na++sums.gh nb++sums.gh nc++sums.gh nd++sums.gh ne:=by rw[<-bK];rfl
     have HD:=ak vU OY;have HL5:Hid ((na<4294967296/\nb<4294967296)/\(nc<4294967296/\nd<4294967296/\ne<4294967296)):=af (by omega);clear aA Yy Gq hf bK hP Ju Lp vU OY HL r1 r2 r3 r4 r5 l1 l2 l3 l4 l5;have lF:∀w:World,(Instr.makeSlice 23 (.int .i64 0) (.int .i64 20)).run Tryz.prog w = .ok (.slice (some ⟨w.heap.size,0,none⟩) 0 20) (w.alloc (.cells #[.int .u8 0,.int .u8 0,.int .u8 0,.int .u8 0,.int .u8 0,.int .u8 0,.int .u8 0,.int .u8 0,.int .u8 0,.int .u8 0,.int .u8 0,.int .u8 0,.int .u8 0,.int .u8 0,.int .u8 0,.int .u8 0,.int .u8 0,.int .u8 0,.int .u8 0,.int .u8 0] 5)):=λ_=>by kernel_rfl
     go_upto_region 15 with fail;obtain⟨Bo,w9,yn,KY,f9,b9⟩:∃Bo w9,Bo=wr.heap.size/\w9=wr.alloc (.cells #[.int .u8 0,.int .u8 0,.int .u8 0,.int .u8 0,.int .u8 0,.int .u8 0,.int .u8 0,.int .u8 0,.int .u8 0,.int .u8 0,.int .u8 0,.int .u8 0,.int .u8 0,.int .u8 0,.int .u8 0,.int .u8 0,.int .u8 0,.int .u8 0,.int .u8 0,.int .u8 0] 5)/\Fr [] wr w9/\w9.heap[Bo]?=some (.cells #[.int .u8 0,.int .u8 0,.int .u8 0,.int .u8 0,.int .u8 0,.int .u8 0,.int .u8 0,.int .u8 0,.int .u8 0,.int .u8 0,.int .u8 0,.int .u8 0,.int .u8 0,.int .u8 0,.int .u8 0,.int .u8 0,.int .u8 0,.int .u8 0,.int .u8 0,.int .u8 0] 5 (0,0)):=⟨_,_,rfl,rfl,(Fr.refl [] wr).alloc _,bx wr _⟩;rw[<-KY,<-yn];have e0:=f9.cell c0 (by simp);have e1:=f9.cell c1 (by simp);have e2:=f9.cell c2 (by simp);have e3:=f9.cell c3 (by simp);have e4:=f9.cell c4 (by simp);have o9:dP w9 5 (some ⟨Bo,0,none⟩) 20 (([]:List UInt8).map bv):=.inr ⟨Bo,0,_,rfl,b9,dZ _,by decide,aw _,rfl⟩;have n9:w.heap.size<=Bo:=by rw[yn];exact HD.o0.size
     have H9:=au (HD.o0.trans f9) o9 n9;clear KY yn f9 b9 o9 n9 c0 c1 c2 c3 c4 lF;go_upto_block 5 with fail;clear e0 e1 e2 e3 e4;go_wp2;go_loopg [5,7,78] 5 (λk s5 s7 s78 wr=>∃(j n:Nat) (a:Option Addr) (q:Nat) (out:List UInt8),s78 = .int .i64 (j:Nat)/\s5 = .slice a n q/\n=out.length/\j+k=5/\n=4*j/\dP wr 5 a q (out.map bv)/\Fr [] w wr/\(∀x∈lib.ae a,w.heap.size<=x)/\out=([na,nb,nc,nd,ne].take j).flatMap sums.gh);case atStart=>exact⟨0,0,_,20,[],rfl,rfl,rfl,rfl,rfl,H9.o1,H9.o0,λx hx=>by simp[lib.ae]at hx;rw[hx];exact H9.l2,rfl⟩
     case round=>
      obtain⟨j,n,a,q,out,rfl,rfl,hn,eG,SB,aA,hf,fu,aR⟩:=hrel;by_cases hj:j<5
      ·obtain⟨k,rfl⟩:∃k,gk=k+1:=⟨gk-1,by omega⟩;obtain⟨⟨m1,m2⟩,m3,m4,m5⟩:=HL5.out;have uX:=λx (hx:x<4294967296)=>sums.Mv a q out x wr hx aA (by omega)
       rw[<-hn]at uX;unfold sums.jO at uX;rw[<-hn]at uX;have xu:=aP uX hf fu aR hn;clear uX hf fu aR aA hn;have key:∀(x:Nat) (w':World) (a':Option Addr) (q':Nat),([na,nb,nc,nd,ne].take (j+1)).flatMap sums.gh=out++sums.gh x->eK wr w' 5 a a' q' ((out++sums.gh x).map bv)->
         ∃out',n+4=out'.length/\n+4=4*(j+1)/\dP w' 5 a' q' (out'.map bv)/\Fr [] w w'/\(∀x∈lib.ae a',w.heap.size<=x)/\out'=([na,nb,nc,nd,ne].take (j+1)).flatMap sums.gh:=λx w' a' q' hx A=>
        ⟨out++sums.gh x,by rw[aK,sums.yL,xu.out.2.2.2.2],by omega,A.own,xu.out.2.1.step A.fr (λy hy=>.inr (xu.out.2.2.1 y hy)),λy hy=>by
         rcases A.at_ y hy with k|k
         ·exact xu.out.2.2.1 y k
         ·exact bS xu.out.2.1.size k,hx.symm⟩
       have HK:=af key;have HJ:=ak SB eG;clear key SB eG;rcases (show j=0\/j=1\/j=2\/j=3\/j=4 by omega) with rfl|rfl|rfl|rfl|rfl
       ·have ix:∀w:World,(Instr.index 185 (.agg #[.int .u32 na,.int .u32 nb,.int .u32 nc,.int .u32 nd,.int .u32 ne]) (.int .i64 0)).run Tryz.prog w = .ok (.int .u32 na) w:=λ_=>by kernel_rfl
        go_wp2_with (go_at_call 119;(with_reducible refine (xu.out.1 na m1).mono ?_);rintro e nu ⟨Cf,zH,rfl,yB⟩;have tQ:=af yB;clear yB);go_roundg k;case measure=>have:=HJ.l1;omega
        case rel=>have eG:=HJ.l1;obtain⟨out',t1,t2,t3,t4,t5,t6⟩:=HK.out na _ _ _ (by rw[xu.out.2.2.2.1];simp) tQ.out;exact⟨1,n+4,Cf,zH,out',rfl,rfl,t1,by omega,t2,t3,t4,t5,t6⟩
       ·have ix:∀w:World,(Instr.index 185 (.agg #[.int .u32 na,.int .u32 nb,.int .u32 nc,.int .u32 nd,.int .u32 ne]) (.int .i64 1)).run Tryz.prog w = .ok (.int .u32 nb) w:=λ_=>by kernel_rfl
        go_wp2_with (go_at_call 119;(with_reducible refine (xu.out.1 nb m2).mono ?_);rintro e nu ⟨Cf,zH,rfl,yB⟩;have tQ:=af yB;clear yB);go_roundg k;case measure=>have:=HJ.l1;omega
        case rel=>have eG:=HJ.l1;obtain⟨out',t1,t2,t3,t4,t5,t6⟩:=HK.out nb _ _ _ (by rw[xu.out.2.2.2.1];simp) tQ.out;exact⟨2,n+4,Cf,zH,out',rfl,rfl,t1,by omega,t2,t3,t4,t5,t6⟩
       ·have ix:∀w:World,(Instr.index 185 (.agg #[.int .u32 na,.int .u32 nb,.int .u32 nc,.int .u32 nd,.int .u32 ne]) (.int .i64 2)).run Tryz.prog w = .ok (.int .u32 nc) w:=λ_=>by kernel_rfl
        go_wp2_with (go_at_call 119;(with_reducible refine (xu.out.1 nc m3).mono ?_);rintro e nu ⟨Cf,zH,rfl,yB⟩;have tQ:=af yB;clear yB);go_roundg k;case measure=>have:=HJ.l1;omega
        case rel=>have eG:=HJ.l1;obtain⟨out',t1,t2,t3,t4,t5,t6⟩:=HK.out nc _ _ _ (by rw[xu.out.2.2.2.1];simp) tQ.out;exact⟨3,n+4,Cf,zH,out',rfl,rfl,t1,by omega,t2,t3,t4,t5,t6⟩
       ·have ix:∀w:World,(Instr.index 185 (.agg #[.int .u32 na,.int .u32 nb,.int .u32 nc,.int .u32 nd,.int .u32 ne]) (.int .i64 3)).run Tryz.prog w = .ok (.int .u32 nd) w:=λ_=>by kernel_rfl
        go_wp2_with (go_at_call 119;(with_reducible refine (xu.out.1 nd m4).mono ?_);rintro e nu ⟨Cf,zH,rfl,yB⟩;have tQ:=af yB;clear yB);go_roundg k;case measure=>have:=HJ.l1;omega
        case rel=>have eG:=HJ.l1;obtain⟨out',t1,t2,t3,t4,t5,t6⟩:=HK.out nd _ _ _ (by rw[xu.out.2.2.2.1];simp) tQ.out;exact⟨4,n+4,Cf,zH,out',rfl,rfl,t1,by omega,t2,t3,t4,t5,t6⟩
       ·have ix:∀w:World,(Instr.index 185 (.agg #[.int .u32 na,.int .u32 nb,.int .u32 nc,.int .u32 nd,.int .u32 ne]) (.int .i64 4)).run Tryz.prog w = .ok (.int .u32 ne) w:=λ_=>by kernel_rfl
        go_wp2_with (go_at_call 119;(with_reducible refine (xu.out.1 ne m5).mono ?_);rintro e nu ⟨Cf,zH,rfl,yB⟩;have tQ:=af yB;clear yB);go_roundg k;case measure=>have:=HJ.l1;omega
        case rel=>have eG:=HJ.l1;obtain⟨out',t1,t2,t3,t4,t5,t6⟩:=HK.out ne _ _ _ (by rw[xu.out.2.2.2.1];simp) tQ.out;exact⟨5,n+4,Cf,zH,out',rfl,rfl,t1,by omega,t2,t3,t4,t5,t6⟩
      ·obtain rfl:j=5:=by omega
       have HZ:=aF aA hf aR hn;have Xt:n=20:=by omega
       subst Xt;clear aA hf aR hn fu SB eG;go_wp2;go_ret;refine⟨⟨a,q,rfl,?_⟩,HZ.o1⟩;have e:out=vu (blocks (cZ rs len).length h (cZ rs len)):=by rw[<-HP.o3,HD.l1,HZ.o2];simp
       rw[<-e];exact HZ.o0.rd
theorem Rt:∀(f:Nat) (p:List UInt8),p.length<=f->(leftOf f p).length<64
 | 0,p,h=>by rw[leftOf];omega
 | f+1,p,h=>by
  rw[leftOf];split
  ·exact Rt f _ (by rw[eQ];omega)
  ·omega
def dY (b:List UInt8):List UInt8:=
 vu (blocks (cZ (leftOf b.length b) b.length).length (blocks b.length h0 b) (cZ (leftOf b.length b) b.length))
theorem sf (b:List UInt8):(dY b).length=20:=rfl
theorem qv2 (a:Option Addr) (cap:Nat) (bs:List UInt8) (w:World) (h:Rd w a cap bs) (hl:bs.length<=140737488355328) :
  Calls Tryz.prog 69 #[.int .i64 1,.slice a bs.length cap] w λe w'=>(∃ao c,e = .returned (.slice ao 20 c)/\Rd w' ao c (dY bs))/\Fr [] w w':=by
 have H:=af h;clear h;go_enter Tryz.func69,Tryz.ntmps69;go_upto_region 2 with (go_at_call 106;refine (qre _).mono ?_;rintro e w1 ⟨rfl,A1,f1⟩);have hw:=Vy w.heap.size h0 none 0 [] 0 cap a bs w1 A1 (H.out.fr f1) (λhb x hx=>by have:=Ag H.out hb x hx;omega) (by omega) (by simp;omega);simp only[vI,fM]at hw;have H1:=ak hw f1;clear hw f1 A1;go_upto_region 3 with (go_at_call 94;refine H1.o0.mono ?_;rintro e w2 ⟨rfl,f2,ra,rc,A2,n2⟩);have hs:=qwb _ _ _ _ _ _ w2 A2 (Rt _ _ (aw _)) (Rw _ _ _ TV) hl;have H2:=ak hs f2;clear hs f2 A2 n2;go_wp2_with (go_at_call 96;refine H2.o0.mono ?_;rintro e w3 ⟨⟨a3,c3,rfl,r3⟩,f3⟩);go_ret;exact⟨⟨a3,c3,rfl,r3⟩,(H1.l1.step H2.l1 (λy hy=>.inr (by simp[lib.ae]at hy;rw[hy];exact aw _))).trans f3⟩
theorem Rl (a:Option Addr) (cap:Nat) (bs:List UInt8) (w:World) (h:Rd w a cap bs) (hl:bs.length<=140737488355328) :
  Calls Tryz.prog 35 #[.slice a bs.length cap] w λe w'=>(∃ao c,e = .returned (.slice ao 20 c)/\Rd w' ao c (dY bs))/\Fr [] w w':=by
 have hw:=af (qv2 a cap bs w h hl);clear h;go_enter Tryz.func35,Tryz.ntmps35;go_wp2_with (go_at_call 69;refine hw.out.mono ?_;rintro e w1 ⟨⟨a1,c1,rfl,r1⟩,f1⟩);go_ret;exact⟨⟨a1,c1,rfl,r1⟩,f1⟩
end sha
namespace delta
open Go Go.RowKit lib
def gJ (n:Nat):List UInt8:=if n<=127 then [UInt8.ofNat n] else UInt8.ofNat (n%128+128)::gJ (n/128)
termination_by n
decreasing_by omega
theorem VN {n:Nat} (h:n<=127):gJ n=[UInt8.ofNat n]:=by rw[gJ,if_pos h]
theorem qtq {n:Nat} (h:127<n):gJ n=UInt8.ofNat (n%128+128)::gJ (n/128):=by rw[gJ,if_neg (by omega)]
def yF:Nat->Nat->Nat->List UInt8->Nat×List UInt8×Nat
 | 0,_,_,_=>(0,[],3)
 | _+1,_,_,[]=>(0,[],4)
 | f+1,i,n,c::r=>if c.toNat<128 then (if 2147483647<n+c.toNat%128*128^i then (0,[],3) else (n+c.toNat%128*128^i,r,0)) else yF f (i+1) (n+c.toNat%128*128^i) r
def rd (d:List UInt8):Nat×List UInt8×Nat:=yF 5 0 0 d
def sizes (d:List UInt8):Nat×Nat×List UInt8×Nat:=
 if (rd d).2.2=0 then (if (rd (rd d).2.1).2.2=0 then ((rd d).1,(rd (rd d).2.1).1,(rd (rd d).2.1).2.1,0) else (0,0,[],(rd (rd d).2.1).2.2)) else (0,0,[],(rd d).2.2)
def pl (op:Nat):Nat->Nat->Nat->Nat->List UInt8->Option (Nat×Nat×List UInt8)
 | 0,_,p,n,d=>some (p,(if n=0 then 65536 else n),d)
 | f+1,i,p,n,d=>if op/2^i%2=0 then pl op f (i+1) p n d else match d with
  | []=>none
  | c::r=>if i<4 then pl op f (i+1) (p+c.toNat*256^i) n r else pl op f (i+1) p (n+c.toNat*256^(i-4)) r
def app (base:List UInt8) (tn:Nat):Nat->List UInt8->List UInt8->List UInt8×Nat
 | _,[],out=>if out.length<tn then ([],3) else (out,0)
 | 0,_::_,_=>([],3)
 | f+1,c::r,out=>if 128<=c.toNat then match pl (c.toNat-128) 7 0 0 0 r with
   | none=>([],4)
   | some (p,n,rest)=>if base.length<p\/base.length-p<n\/tn-out.length<n then ([],3) else app base tn f rest (out++(base.drop p).take n)
  else if c.toNat=0\/tn-out.length<c.toNat then ([],3) else if r.length<c.toNat then ([],4) else app base tn f (r.drop c.toNat) (out++r.take c.toNat)
def apply (base d:List UInt8) (bound:Int):List UInt8×Nat:=
 if (sizes d).2.2.2≠0 then ([],(sizes d).2.2.2) else if (sizes d).1≠base.length then ([],3) else if bound.toNat<(sizes d).2.1 then ([],5) else app base (sizes d).2.1 (sizes d).2.2.1.length (sizes d).2.2.1 []
theorem UN:∀(f i n:Nat) (d:List UInt8),∃k,(yF f i n d).2.1.length+k=d.length/\((yF f i n d).2.2=0->(yF f i n d).2.1=d.drop k/\(yF f i n d).1<=2147483647)
 | 0,_,_,d=>⟨d.length,by simp[yF],by simp[yF]⟩
 | f+1,i,n,[]=>⟨0,by simp[yF],by simp[yF]⟩
 | f+1,i,n,c::r=>by
  rw[yF];split
  ·split
   ·exact⟨(c::r).length,by simp,by simp⟩
   ·refine⟨1,by simp,λ_=>⟨by simp,by simp only;omega⟩⟩
  ·obtain⟨k,h1,h2⟩:=UN f (i+1) (n+c.toNat%128*128^i) r;exact⟨k+1,by simp only[cQ];omega,λh=>by simpa using h2 h⟩
theorem qtf (d:List UInt8):(sizes d).2.1<=2147483647/\(sizes d).2.2.1.length<=d.length:=by
 obtain⟨k,h1,h2⟩:=UN 5 0 0 d;unfold sizes;split
 ·rename_i h0;obtain⟨k',h3,h4⟩:=UN 5 0 0 (rd d).2.1;split
  ·rename_i h5;refine⟨(h4 h5).2,?_⟩;simp only;unfold rd at *;omega
  ·simp
 ·simp
theorem zaw (n:Nat):0<(gJ n).length:=by rw[gJ];split<;>simp
theorem Dq {n:Nat} (h:n<256):(UInt8.ofNat n).toNat=n:=by rw[AA];omega
theorem AH (i:Nat):128^(i+1)=128*128^i:=by rw[pK,nE]
end delta
namespace pk
open Go lib
structure eo where
 kind:Nat
 at_:Nat
 size:Nat
 crc:Nat
 data:List UInt8
 base:List UInt8
 off:Nat
def CL (bs:List UInt8):Nat->Nat->Nat->Nat->Except Nat (Nat×Nat×Nat)
 | 0,_,_,_=>.error 3
 | f+1,i,kind,size=>match bs[i]? with
  | none=>.error 4
  | some c=>
   if i=0 then
    if c.toNat/16%8=0\/c.toNat/16%8=5 then .error 3
    else if 128<=c.toNat then CL bs f 1 (c.toNat/16%8) (c.toNat%16) else .ok (c.toNat/16%8,c.toNat%16,1)
   else if 128<=c.toNat then CL bs f (i+1) kind (size+c.toNat%128*2^(7*i-3))
   else if 2147483647<size+c.toNat%128*2^(7*i-3) then .error 3
   else if 65536<size+c.toNat%128*2^(7*i-3) then .error 5
   else .ok (kind,size+c.toNat%128*2^(7*i-3),i+1)
def AJ (bs:List UInt8):Except Nat (Nat×Nat×Nat):=CL bs 5 0 0 0
def DL (bs:List UInt8):Nat->Nat->Nat->Except Nat (Nat×Nat)
 | 0,_,_=>.error 3
 | f+1,i,v=>match bs[i]? with
  | none=>.error 4
  | some c=>if c.toNat<128 then .ok ((if 0<i then (v+1)*128 else 0)+c.toNat%128,i+1) else DL bs f (i+1) ((if 0<i then (v+1)*128 else 0)+c.toNat%128)
def uB (bs:List UInt8):Except Nat (Nat×Nat):=DL bs 5 0 0
def gX (bs:List UInt8) (at_ kind p:Nat):Except Nat (List UInt8×Nat×Nat):=
 if kind=6 then match uB (bs.drop p) with
  | .error e=>.error e
  | .ok (v,k)=>if v<1\/at_<v then .error 3 else .ok ([],at_-v,p+k)
 else if kind=7 then if bs.length-p<20 then .error 4 else .ok (ib ((bs.drop p).take 20),0,p+20)
 else .ok ([],0,p)
def nG (bs:List UInt8) (at_:Nat):Except Nat (eo×Nat):=
 match AJ (bs.drop at_) with
 | .error e=>.error e
 | .ok (kind,size,n)=>match gX bs at_ kind (at_+n) with
  | .error e=>.error e
  | .ok (base,off,q)=>match inf.mP (bs.drop q) 65536 with
   | .error e=>.error e
   | .ok (out,k)=>if out.length=size then .ok (⟨kind,at_,size,crc.crc ((bs.drop at_).take (q+k-at_)),out,base,off⟩,q+k) else .error 3
def jT (bs:List UInt8):Nat->Nat->List eo->Except Nat (List eo×Nat)
 | 0,at_,l=>.ok (l,at_)
 | n+1,at_,l=>match nG bs at_ with
  | .error e=>.error e
  | .ok (x,p)=>jT bs n p (l++[x])
def fL:List UInt8:=[80,65,67,75,0,0,0,2]
def pread (bs:List UInt8):Except Nat (List eo×List UInt8):=
 if 1048576<bs.length then .error 5
 else if bs.take 8≠fL.take bs.length then .error 3
 else if bs.length<12 then .error 4
 else if 4096<crc.kh ((bs.drop 8).take 4) then .error 5
 else match jT bs (crc.kh ((bs.drop 8).take 4)) 12 [] with
  | .error e=>.error e
  | .ok (l,at_)=>if bs.length-at_<20 then .error 4
   else if (bs.drop at_).take 20≠sha.dY (bs.take at_) then .error 6
   else if at_+20<bs.length then .error 3
   else .ok (l,ib (sha.dY (bs.take at_)))
structure Obj where
 kind:Int
 body:List UInt8
 id:List UInt8
 at_:Int
 crc:Nat
structure Kn where
 kind:Int
 body:List UInt8
 id:List UInt8
def pQ (kind:Int) (body:List UInt8):List UInt8:=ib (sha.dY (obj.header kind body.length++body))
def whole (r:eo) (kind:Int) (body:List UInt8):Obj:=⟨kind,body,pQ kind body,r.at_,r.crc⟩
abbrev St:=Option (Except Nat (Obj×Nat))
def over (r:eo) (kind:Int) (base:List UInt8) (d:Nat):Except Nat (Obj×Nat):=
 if 50<d+1 then .error 3 else if (delta.apply base r.data 65536).2=0 then .ok (whole r kind (delta.apply base r.data 65536).1,d+1) else .error (delta.apply base r.data 65536).2
def rU (l:List eo) (i off:Nat):Option Nat:=(List.range i).find? λk=>match l[k]? with
 | some y=>y.at_==off
 | none=>false
def uI (id:List UInt8):St->Bool
 | some (.ok (o,_))=>o.id==id
 | _=>false
def fK (l:List eo) (i:Nat) (x:eo):St:=
 if x.kind=6 then (match rU l i x.off with
  | none=>some (.error 3)
  | some _=>none)
 else if x.kind=7 then none else some (.ok (whole x x.kind x.data,0))
def ig (l:List eo):List St:=(List.range l.length).map λi=>match l[i]? with
 | some x=>fK l i x
 | none=>none
def yV (x:eo):St->St
 | none=>none
 | some (.error e)=>some (.error e)
 | some (.ok (o,d))=>some (over x o.kind o.body d)
def sR (l:List eo) (W:List St) (i:Nat) (x:eo):St:=
 if x.kind=6 then (match rU l i x.off with
  | none=>none
  | some k=>yV x (W[k]?.getD none))
 else yV x ((W.find? (uI x.base)).getD none)
def pass (l:List eo):Nat->Nat->List St->Bool->List St×Bool
 | 0,_,W,more=>(W,more)
 | n+1,i,W,more=>match l[i]?,W[i]? with
  | some x,some none=>(match sR l W i x with
   | none=>pass l n (i+1) W more
   | some s=>pass l n (i+1) (W.set i (some s)) true)
  | _,_=>pass l n (i+1) W more
def jn (kn:List Kn) (id:List UInt8):Option Kn:=kn.find? λk=>k.id==id&&pQ k.kind k.body==id
def ask (l:List eo) (kn:List Kn):Nat->Nat->List St->Option (List St)
 | 0,_,_=>none
 | n+1,i,W=>match l[i]?,W[i]? with
  | some x,some none=>if x.kind=7 then (match jn kn x.base with
    | some k=>some (W.set i (some (over x k.kind k.body 0)))
    | none=>ask l kn n (i+1) W) else ask l kn n (i+1) W
  | _,_=>ask l kn n (i+1) W
def uq (l:List eo) (kn:List Kn):Nat->List St->List St
 | 0,W=>W
 | f+1,W=>if (pass l l.length 0 W false).2 then uq l kn f (pass l l.length 0 W false).1 else match ask l kn l.length 0 (pass l l.length 0 W false).1 with
  | some W2=>uq l kn f W2
  | none=>(pass l l.length 0 W false).1
def fJ:List St->Except Nat (List Obj)
 | []=>.ok []
 | none::_=>.error 61
 | some (.error e)::_=>.error e
 | some (.ok (o,_))::t=>match fJ t with
  | .error e=>.error e
  | .ok r=>.ok (o::r)
def resolve (l:List eo) (kn:List Kn):Except Nat (List Obj):=fJ (uq l kn (l.length+1) (ig l))
theorem LZ (bs:List UInt8):∀(f i kind size:Nat) {k s n:Nat},CL bs f i kind size = .ok (k,s,n)->i<n/\n<=i+f/\n<=bs.length/\s<=65536
 | 0,i,kind,size,k,s,n,h=>by cases h
 | f+1,i,kind,size,k,s,n,h=>by
  rw[CL]at h;split at h
  ·cases h
  ·rename_i c hc;have aY:=(lA.1 hc).1;split at h
   ·split at h
    ·cases h
    ·split at h
     ·obtain⟨h1,h2,h3,h4⟩:=LZ bs f _ _ _ h;exact⟨by omega,by omega,h3,h4⟩
     ·simp only[gA,fj]at h;omega
   ·split at h
    ·obtain⟨h1,h2,h3,h4⟩:=LZ bs f _ _ _ h;exact⟨by omega,by omega,h3,h4⟩
    ·split at h
     ·cases h
     ·split at h
      ·cases h
      ·simp only[gA,fj]at h;obtain⟨_,h2,h3⟩:=h;exact⟨by omega,by omega,by omega,by omega⟩
theorem ZW (bs:List UInt8):∀(f i v:Nat) {x n:Nat},DL bs f i v = .ok (x,n)->i<n/\n<=bs.length
 | 0,i,v,x,n,h=>by cases h
 | f+1,i,v,x,n,h=>by
  rw[DL]at h;split at h
  ·cases h
  ·rename_i c hc;have aY:=(lA.1 hc).1;split at h
   ·simp only[gA,fj]at h;omega
   ·obtain⟨h1,h2⟩:=ZW bs f _ _ h;exact⟨by omega,h2⟩
theorem qtk {bs:List UInt8} {at_ kind p:Nat} {base:List UInt8} {off q:Nat} (hp:p<=bs.length) (h:gX bs at_ kind p = .ok (base,off,q)):p<=q/\q<=bs.length/\base.length<=40/\off<=at_:=by
 unfold gX at h;split at h
 ·split at h
  ·cases h
  ·rename_i v k hb;obtain⟨h1,h2⟩:=ZW _ _ _ _ hb;rw[eQ]at h2;split at h
   ·cases h
   ·simp only[gA,fj]at h;obtain⟨rfl,rfl,rfl⟩:=h;exact⟨by omega,by omega,by simp,by omega⟩
 ·split at h
  ·split at h
   ·cases h
   ·simp only[gA,fj]at h;obtain⟨rfl,rfl,rfl⟩:=h;exact⟨by omega,by omega,by rw[eV,eJ];omega,by omega⟩
  ·simp only[gA,fj]at h;obtain⟨rfl,rfl,rfl⟩:=h;exact⟨by omega,hp,by simp,by omega⟩
def bG:List St->Nat
 | []=>0
 | none::t=>bG t+1
 | some _::t=>bG t
theorem Vv:∀W:List St,bG W<=W.length
 | []=>aw _
 | none::t=>by have:=Vv t;simp only[bG,cQ];omega
 | some _::t=>by have:=Vv t;simp only[bG,cQ];omega
theorem VW:∀(W:List St) (i:Nat) (s:Except Nat (Obj×Nat)),W[i]?=some none->bG (W.set i (some s))+1=bG W
 | [],i,s,h=>by simp at h
 | x::t,0,s,h=>by
  simp only[aV,eS]at h;subst h;rfl
 | x::t,i+1,s,h=>by
  simp only[bN]at h;have:=VW t i s h;cases x with
  | none=>simp only[nC,bG];omega
  | some y=>simp only[nC,bG];omega
theorem RO (l:List eo):∀(n i:Nat) (W:List St) (more:Bool),(pass l n i W more).1.length=W.length/\bG (pass l n i W more).1<=bG W/\((pass l n i W more).2=true->more=true\/bG (pass l n i W more).1<bG W)
 | 0,i,W,more=>⟨rfl,aw _,λh=>.inl h⟩
 | n+1,i,W,more=>by
  rw[pass];split
  ·rename_i x hx hW;split
   ·exact RO l n _ _ _
   ·rename_i s hs;obtain⟨h1,h2,h3⟩:=RO l n (i+1) (W.set i (some s)) true;have h4:=VW W i s hW;refine⟨by rw[h1,Kf],by omega,λ_=>.inr (by omega)⟩
  ·exact RO l n _ _ _
theorem Ru (l:List eo) (kn:List Kn):∀(n i:Nat) (W:List St) {W2:List St},ask l kn n i W=some W2->W2.length=W.length/\bG W2<bG W
 | 0,i,W,W2,h=>by cases h
 | n+1,i,W,W2,h=>by
  rw[ask]at h;split at h
  ·rename_i x hx hW;split at h
   ·split at h
    ·rename_i k hk;simp only[eS]at h;have h4:=VW W i (over x k.kind k.body 0) hW;subst h;exact⟨by rw[Kf],by omega⟩
    ·exact Ru l kn n _ _ h
   ·exact Ru l kn n _ _ h
  ·exact Ru l kn n _ _ h
theorem V6 (l:List eo):(ig l).length=l.length:=by unfold ig;simp
theorem qn9 (l:List eo) (i:Nat) (x:eo) (h:l[i]?=some x):(ig l)[i]?=some (fK l i x):=by have hi:=(lA.1 h).1;unfold ig;rw[j5,List.getElem?_range hi];simp only[CA,h]
theorem qw2 (l:List eo) (n i:Nat) (W:List St) (more:Bool) (x:eo) (hx:l[i]?=some x) (s:St) (hW:W[i]?=some s) :
  pass l (n+1) i W more=if s=none then (match sR l W i x with
   | none=>pass l n (i+1) W more
   | some s=>pass l n (i+1) (W.set i (some s)) true) else pass l n (i+1) W more:=by
 cases s with
 | none=>rw[pass,hx,hW];simp<;>rfl
 | some s=>rw[pass,hx,hW];simp
end pk
namespace bits
open Go Go.RowKit lib bm
def Qf (T:TypeId) (w:World) (p:Nat) (F:List Nat) (bs:List UInt8) (at_:Nat):Prop:=
 ∃ao cap,w.heap[p]?=some (.cells #[.slice ao bs.length cap,.int .i64 at_] T (0,0))/\Cs w ao (bs.map bv)/\F=p::ae ao/\
  p∉ae ao/\bs.length<=140737488351232/\at_<=8*bs.length/\bs.length<=cap/\cap<=maxLen/\(ao=none->cap=0)
abbrev Rd (w:World) (p:Nat) (F:List Nat) (bs:List UInt8) (at_:Nat):Prop:=Qf 264 w p F bs at_
theorem Cv (p:Nat) (F:List Nat) (bs:List UInt8) (at_:Nat) (n:Int) (w:World) (hR:Rd w p F bs at_) (qg:0<=n) (iJ:n<=32) (wP:at_+n<=8*bs.length) :
  Calls Tryz.prog 165 #[.pointer (some ⟨p,0,none⟩),.int .i64 n] w λe w'=>
   e = .returned (.tuple #[.int .u32 (num bs/2^at_%2^n.toNat:Nat),.bool true])/\Rd w' p F bs (at_+n.toNat)/\Fr [p] w w':=by
 obtain⟨ao,cap,hr,hcs,rfl,bT,hlen,eD,cP,dv⟩:=hR;obtain⟨n,rfl⟩:=FF qg;have h1:decide ((n:Int)<0)=false:=by simp
 have h2:decide (32<(n:Int))=false:=by simp;omega
 have h3:decide (8*(bs.length:Int)-at_<(n:Int))=false:=by simp;omega
 have c0:=cell_of hr 0;have c1:=cell_of hr 1;simp only[bw,aV,bN]at c0 c1;have Hr:=af hr;clear hr;go_enter Tryz.func165,Tryz.ntmps165;go_wp2;go_quiet (fail);clear c0 c1;go_wp2;go_loopw [6,7] (λv i wr=>∃k:Nat,k<=n/\i = .int .i64 k/\v = .int .u32 (num bs/2^at_%2^k:Nat)/\
   wr.heap[p]?=some (.cells #[.slice ao bs.length cap,.int .i64 (at_+k:Nat)] 264 (0,0))/\Fr [p] w wr)
  (λ_ i _=>n-(intOf i).toNat)
 case atStart=>exact⟨0,by omega,rfl,by simp[Nat.mod_one],by simpa using Hr.out,Fr.drewN _ _ _⟩
 case round=>
  obtain⟨k,hk,rfl,rfl,eX,hb⟩:=hrel;by_cases hkn:k<n
  ·obtain⟨g,o,rfl,hc⟩:=hcs.at (by simp;omega);have hq:(at_+k)/8<bs.length:=by omega
   have cd:wr.cell? ⟨g,o+(at_+k)/8,none⟩=some (bv (bs.getD ((at_+k)/8) 0)):=by refine hb.cell (hc _ _ ?_) (by simpa[ae,eq_comm] using bT);simp[List.getD,hq]
   unfold bv at cd;have c0:=cell_of eX 0;have c1:=cell_of eX 1;have f1:=aO eX 1;simp only[bw,aV,bN]at c0 c1;have LF:=af eX;clear eX hc;have kg:(bs.getD ((at_+k)/8) 0).toNat<256:=iB _;generalize tF:(bs.getD ((at_+k)/8) 0).toNat=bn at cd kg;have Hbn:=af tF;clear tF;have hv:num bs/2^at_%2^k<4294967296:=by refine eT (vZ _ (oZ _)) ?_;exact kr (by omega) (show k<=32 by omega)
   generalize hvn:num bs/2^at_%2^k=vn at hv ⊢;have Hvn:=af hvn;clear hvn;go_wp2;all_goals
    go_quiet (fail)
    go_wp2
    go_roundw
    case rel=>
     first
     | exact⟨k+(n-k),by omega,int_eq (by omega),int_eq (qpy bs at_ k (n-k) vn bn hq (by omega) (by omega) Hvn.out Hbn.out),
       (aX (w:=wr.drewN nq) LF.out _).trans (by simp;omega),(hb.nQ nq).setCell (by simp) _⟩
     | exact⟨k+(8-(at_+k)%8),by omega,int_eq (by omega),int_eq (qpy bs at_ k (8-(at_+k)%8) vn bn hq (by omega) (by omega) Hvn.out Hbn.out),
       (aX (w:=wr.drewN nq) LF.out _).trans (by simp;omega),(hb.nQ nq).setCell (by simp) _⟩
    case measure=>simp[intOf];omega
  ·obtain rfl:k=n:=by omega
   have X8:Cs wr ao (bs.map bv):=hcs.fr hb (by intro x hx;simp;rintro rfl;exact bT hx);have LF:=af eX;clear eX hcs;go_wp2;go_ret2;exact⟨by simp,⟨ao,cap,by simpa using LF.out,X8,rfl,bT,hlen,by simp;omega,cP,dv⟩,hb⟩
theorem Fo (p:Nat) (F:List Nat) (bs:List UInt8) (at_:Nat) (n:Int) (w:World) (hR:Rd w p F bs at_) (hn:n<0\/32<n\/8*bs.length<at_+n) :
  Calls Tryz.prog 165 #[.pointer (some ⟨p,0,none⟩),.int .i64 n] w λe w'=>
   e = .returned (.tuple #[.int .u32 0,.bool false])/\Rd w' p F bs at_/\Fr [] w w':=by
 obtain⟨ao,cap,hr,hcs,rfl,bT,hlen,eD,cP,dv⟩:=hR;have c0:=cell_of hr 0;have c1:=cell_of hr 1;simp only[bw,aV,bN]at c0 c1;have Hr:=af hr;clear hr;have done:∀m,Rd (w.drewN m) p (p::ae ao) bs at_:=λm=>⟨ao,cap,Hr.out,hcs,rfl,bT,hlen,eD,cP,dv⟩
 have Hd:=af done;clear done;by_cases a1:n<0
 ·have h1:decide (n<0)=true:=by simp;omega
  go_enter Tryz.func165,Tryz.ntmps165;go_wp2;go_quiet (fail);go_wp2;go_ret2;exact⟨rfl,Hd.out _,Fr.drewN _ _ _⟩
 ·have h1:decide (n<0)=false:=by simp;omega
  by_cases a2:32<n
  ·have h2:decide (32<n)=true:=by simp;omega
   go_enter Tryz.func165,Tryz.ntmps165;go_wp2;go_quiet (fail);go_wp2;go_ret2;exact⟨rfl,Hd.out _,Fr.drewN _ _ _⟩
  ·have h2:decide (32<n)=false:=by simp;omega
   have h3:decide (8*(bs.length:Int)-at_<n)=true:=by simp;omega
   go_enter Tryz.func165,Tryz.ntmps165;go_wp2;go_quiet (fail);go_wp2;go_ret2;exact⟨rfl,Hd.out _,Fr.drewN _ _ _⟩
end bits

end Go.Proofs.YtkmpfgpfbmeihaaGreatDoor