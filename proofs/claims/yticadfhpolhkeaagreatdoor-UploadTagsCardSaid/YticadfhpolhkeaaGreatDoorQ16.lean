/-
  Texts of this proof, one behind the other: PkLaw, RShaLaw, Sha2, GraphB, MixT, PktLaw, PktSize, Slices8, PktMem.
-/
import Derived.Test.YticadfhpolhkeaaGreatDoorQ15
import Derived.ScopeJumps
set_option maxHeartbeats 16000000
set_option maxRecDepth 100000
set_option linter.unusedVariables false
set_option linter.unusedSimpArgs false
namespace Go.Proofs.YticadfhpolhkeaaGreatDoor
namespace pk
open Go lib
structure xR where
 kind:Nat
 at_:Nat
 size:Nat
 crc:Nat
 data:List UInt8
 base:List UInt8
 off:Nat
def Ux (bs:LB):Nat->Nat->Nat->Nat->Except Nat (Nat×Nat×Nat)
 | 0,_,_,_=>.error 3
 | f+1,i,kind,size=>match bs[i]? with
  | none=>.error 4
  | some c=>
   if i=0 then
    if c.toNat/16%8=0\/c.toNat/16%8=5 then .error 3
    else if 128<=c.toNat then Ux bs f 1 (c.toNat/16%8) (c.toNat%16) else .ok (c.toNat/16%8,c.toNat%16,1)
   else if 128<=c.toNat then Ux bs f (i+1) kind (size+c.toNat%128*2^(7*i-3))
   else if 2147483647<size+c.toNat%128*2^(7*i-3) then .error 3
   else if 65536<size+c.toNat%128*2^(7*i-3) then .error 5
   else .ok (kind,size+c.toNat%128*2^(7*i-3),i+1)
def je (bs:LB):Except Nat (Nat×Nat×Nat):=Ux bs 5 0 0 0
structure Obj where
 kind:Int
 body:List UInt8
 id:List UInt8
 at_:Int
 crc:Nat
structure Kn where
 kind:Int
 body:List UInt8
 id:List UInt8
def aO (kind:Int) (body:LB):List UInt8:=mn (sha.wX (obj.header kind body.length++body))
def whole (r:xR) (kind:Int) (body:LB):Obj:=⟨kind,body,aO kind body,r.at_,r.crc⟩
abbrev St:=Option (Except Nat (Obj×Nat))
def over (r:xR) (kind:Int) (base:LB) (d:Nat):Except Nat (Obj×Nat):=
 if 50<d+1 then .error 3 else if (delta.apply base r.data 65536).2=0 then .ok (whole r kind (delta.apply base r.data 65536).1,d+1) else .error (delta.apply base r.data 65536).2
def N6 (l:List xR) (i off:Nat):Option Nat:=(List.range i).find? λk=>match l[k]? with
 | some y=>y.at_==off
 | none=>false
def UG (id:LB):St->Bool
 | some (.ok (o,_))=>o.id==id
 | _=>false
def GL (l:List xR) (i:Nat) (x:xR):St:=
 if x.kind=6 then (match N6 l i x.off with
  | none=>some (.error 3)
  | some _=>none)
 else if x.kind=7 then none else some (.ok (whole x x.kind x.data,0))
def GK (l:List xR):List St:=(List.range l.length).map λi=>match l[i]? with
 | some x=>GL l i x
 | none=>none
def Li (x:xR):St->St
 | none=>none
 | some (.error e)=>some (.error e)
 | some (.ok (o,d))=>some (over x o.kind o.body d)
def RN (l:List xR) (W:List St) (i:Nat) (x:xR):St:=
 if x.kind=6 then (match N6 l i x.off with
  | none=>none
  | some k=>Li x (W[k]?.getD none))
 else Li x ((W.find? (UG x.base)).getD none)
def pass (l:List xR):Nat->Nat->List St->Bool->List St×Bool
 | 0,_,W,more=>(W,more)
 | n+1,i,W,more=>match l[i]?,W[i]? with
  | some x,some none=>(match RN l W i x with
   | none=>pass l n (i+1) W more
   | some s=>pass l n (i+1) (W.set i (some s)) true)
  | _,_=>pass l n (i+1) W more
def Lx (kn:List Kn) (id:LB):Option Kn:=kn.find? λk=>k.id==id&&aO k.kind k.body==id
def ask (l:List xR) (kn:List Kn):Nat->Nat->List St->Option (List St)
 | 0,_,_=>none
 | n+1,i,W=>match l[i]?,W[i]? with
  | some x,some none=>if x.kind=7 then (match Lx kn x.base with
    | some k=>some (W.set i (some (over x k.kind k.body 0)))
    | none=>ask l kn n (i+1) W) else ask l kn n (i+1) W
  | _,_=>ask l kn n (i+1) W
def EG (l:List xR) (kn:List Kn):Nat->List St->List St
 | 0,W=>W
 | f+1,W=>if (pass l l.length 0 W false).2 then EG l kn f (pass l l.length 0 W false).1 else match ask l kn l.length 0 (pass l l.length 0 W false).1 with
  | some W2=>EG l kn f W2
  | none=>(pass l l.length 0 W false).1
def zL:List St->Except Nat (List Obj)
 | []=>.ok []
 | none::_=>.error 61
 | some (.error e)::_=>.error e
 | some (.ok (o,_))::t=>match zL t with
  | .error e=>.error e
  | .ok r=>.ok (o::r)
def resolve (l:List xR) (kn:List Kn):Except Nat (List Obj):=zL (EG l kn (l.length+1) (GK l))
end pk
namespace sha
open Go Go.RowKit lib bm
theorem zcw (p q:LB) (i:Nat) (h:i+3<p.length):word (p++q) i=word p i:=by unfold word;rw[Ay (by omega),Ay (by omega),Ay (by omega),Ay (by omega)]
theorem qqu (p q:LB) (h:64<=p.length):∀t,sched (p++q) t=sched p t
 | 0=>rfl
 | t+1=>by
  have e:∀x,sched x (t+1)=sched x t++[if t<16 then word x (4*t) else Hl (bits .xor .u32 (bits .xor .u32 (bits .xor .u32 ((sched x t)[t-3]?.getD 0) ((sched x t)[t-8]?.getD 0)) ((sched x t)[t-14]?.getD 0)) ((sched x t)[t-16]?.getD 0)) 1]:=λ_=>rfl
  refine (e _).trans (Eq.trans ?_ (e _).symm);have ih:=qqu p q h t;generalize sched (p++q) t=a at *;subst ih;refine congrArg (λz=>sched p t++[z]) ?_;by_cases ht:t<16
  ·rw[if_pos ht,if_pos ht];exact zcw p q _ (by omega)
  ·rw[if_neg ht,if_neg ht]
theorem qzi (p q:LB) (h:64<=p.length) (t:Nat) (s:H5):round (p++q) t s=round p t s:=by unfold round;rw[qqu p q h]
theorem qn0 (p q:LB) (h:64<=p.length) (s:H5):∀t,rounds (p++q) t s=rounds p t s
 | 0=>rfl
 | t+1=>by rw[rounds,rounds,qn0 p q h s t,qzi p q h]
theorem zd8 (p q:LB) (h:64<=p.length) (s:H5):lq s (p++q)=lq s p:=by unfold lq;rw[qn0 p q h]
theorem Uc:∀(f g:Nat) (h:H5) (p:LB),p.length<=f->p.length<=g->blocks f h p=blocks g h p
 | 0,0,h,p,_,_=>rfl
 | 0,g+1,h,p,h1,_=>by rw[blocks,blocks,if_neg (by omega)]
 | f+1,0,h,p,_,h2=>by rw[blocks,blocks,if_neg (by omega)]
 | f+1,g+1,h,p,h1,h2=>by
  rw[blocks,blocks];split
  ·exact Uc f g _ _ (by rw[gN];omega) (by rw[gN];omega)
  ·rfl
theorem P1:∀(f F:Nat) (h:H5) (p q:LB),p.length<=f->(p++q).length<=F->blocks F h (p++q)=blocks (leftOf f p++q).length (blocks f h p) (leftOf f p++q)
 | 0,F,h,p,q,h1,h2=>by
  rw[leftOf,blocks];exact Uc _ _ _ _ h2 (ax _)
 | f+1,F,h,p,q,h1,h2=>by
  by_cases rf:64<=p.length
  ·rw[leftOf,if_pos rf,show blocks (f+1) h p=blocks f (lq h p) (p.drop 64) by rw[blocks,if_pos rf]];obtain⟨F',rfl⟩:∃F',F=F'+1:=⟨F-1,by rw[aG]at h2;omega⟩;rw[blocks,if_pos (by rw[aG];omega),zd8 p q rf,KJ rf];exact P1 f F' _ _ q (by rw[gN];omega) (by rw[aG,gN];rw[aG]at h2;omega)
  ·rw[leftOf,if_neg rf,show blocks (f+1) h p=h by rw[blocks,if_neg rf]];exact Uc _ _ _ _ h2 (ax _)
theorem PJ:∀(f:Nat) (p:LB),(leftOf f p).length%64=p.length%64
 | 0,p=>by rw[leftOf]
 | f+1,p=>by
  rw[leftOf];split
  ·rw[PJ f,gN];omega
  ·rfl
theorem qqs (s:LB):wX s=xI (blocks (dH s s.length).length h0 (dH s s.length)):=by
 have hz:vG ((leftOf s.length s).length+1)=vG (s.length+1):=by have:=PJ s.length s;unfold vG;omega
 have e:∀r:List UInt8,vG (r.length+1)=vG (s.length+1)->dH r s.length=r++([128]++(List.replicate (vG (s.length+1)) 0++(sums.iI (s.length/536870912)++sums.iI (s.length*8%4294967296)))):=λr hr=>by unfold dH oJ;rw[hr];simp only[fU]
 unfold wX;rw[e _ hz,e s rfl,<-P1 s.length _ h0 s _ (ax _) (ax _)]
def uE (len:Nat):List UInt8:=[128]++(List.replicate (vG (len+1)) 0++(sums.iI (len/536870912)++sums.iI (len*8%4294967296)))
theorem qmg (r:LB) (len:Nat) (h:r.length%64=len%64):dH r len=r++uE len:=by
 have hz:vG (r.length+1)=vG (len+1):=by unfold vG;omega
 unfold dH oJ uE;rw[hz];simp only[fU]
theorem zdh (a b:LB) {rs:LB} (mD:rs=leftOf (leftOf a.length a++b).length (leftOf a.length a++b)) {len:Nat} (hlen:len=a.length+b.length) :
  xI (blocks (dH rs len).length (blocks (leftOf a.length a++b).length (blocks a.length h0 a) (leftOf a.length a++b)) (dH rs len))=wX (a++b):=by
 have h1:=PJ a.length a;have h2:=PJ (leftOf a.length a++b).length (leftOf a.length a++b);rw[aG]at h2;have Vi:rs.length%64=len%64:=by rw[mD,hlen,aG];omega
 rw[qmg rs len Vi,mD,<-P1 _ _ _ _ _ (ax _) (ax _),fU,<-P1 a.length _ h0 a (b++uE len) (ax _) (ax _),qqs,
  qmg (a++b) _ rfl,hlen,fU]
 simp only[aG]
end sha
namespace ob
open Go Go.RowKit lib fs pk
variable {w w0:World} {B W c cap j n size:Nat} {xs:LV} {get v:Value} {a:OA}
set_option maxRecDepth 100000
theorem zdc:aw Tryz.prog 299 359 (.agg #[.string ⟨#[]⟩,.int .i64 0]) 2 24:=aw.of Tryz.underlying299 (by kernel_rfl) rfl (by decide)
theorem Xy:Tryz.prog.underlying 266=some (.map 9 3):=by kernel_rfl
theorem zgj (w:World):(zeroValue 3).run Tryz.prog w = .ok (.int .i64 0) w:=by kernel_rfl
abbrev It:=Nm×Nat
def DH (x:It):List Value:=[.string (str x.1),.int .i64 (x.2:Nat)]
theorem zdz {e:TypeId} {g:Nat} (h:w.ownsRow 0 e size (.slice (some ⟨g,0,none⟩) n cap) n xs):(w.setCell ⟨g,j,none⟩ v).ownsRow 0 e size (.slice (some ⟨g,0,none⟩) n cap) n (xs.set j v):=by
 obtain⟨h1,h2⟩:=h;refine⟨by rw[Dc,h1],?_⟩;rcases h2 with⟨h2,_⟩|⟨g',aM,cur,h2,hb,hg,hn,hm,hs,ht⟩
 ·cases h2
 ·simp only[kJ,fI,rB]at h2;obtain⟨⟨rfl,_,_⟩,_,rfl⟩:=h2;refine .inr ⟨g,cap,_,rfl,hb,df hg v,hn,hm,by simpa using hs,?_⟩;rw[Array.toList_setIfInBounds,List.take_set,ht]
theorem Dr {e:TypeId} (h:w.ownsRow 0 e size (.slice a n cap) n xs) (hj:xs[j]?=some v):∃g,a=some ⟨g,0,none⟩/\w.cell? ⟨g,j,none⟩=some v/\w.frozen? ⟨g,j,none⟩=false:=by
 obtain⟨h1,h2⟩:=h;rcases h2 with⟨_,h2⟩|⟨g',aM,cur,h2,hb,hg,hn,hm,hs,ht⟩
 ·rw[h2,Nat.zero_mul]at h1;rw[sr h1]at hj;cases hj
 ·simp only[kJ]at h2;obtain⟨rfl,_,rfl⟩:=h2;refine⟨g',rfl,?_,aT hg _⟩;rw[cell_of hg];rw[<-ht,oG]at hj;split at hj
  ·simpa using hj
  ·cases hj
theorem qm4 {e:TypeId} {ao:OA} {len:Nat} (h:w.ownsRow 0 e size (.slice ao len cap) n xs):Cs w ao xs:=by
 by_cases h0:xs=[]
 ·exact .inl h0
 ·obtain⟨h1,h2⟩:=h;rcases h2 with⟨_,h2⟩|⟨g',aM,cur,h2,hb,hg,hn,hm,hs,ht⟩
  ·rw[h2,Nat.zero_mul]at h1;exact absurd (sr h1) h0
  ·simp only[kJ]at h2;obtain⟨rfl,_,rfl⟩:=h2;refine .inr ⟨g',0,rfl,λj v hv=>?_⟩;rw[cell_of hg,iN];rw[<-ht,oG]at hv;split at hv
   ·simpa using hv
   ·cases hv
structure Wk (w0 w:World) (W B:Nat) (get:Value) (a:OA) (c:Nat) (L:List It):Prop where
 fr:Fr [] w0 w
 box:w.heap[W]?=some (.cells #[get,.slice a L.length c,.map (some B),.bool false] 301 (0,0))
 own:w.ownsRow 0 359 2 (.slice a L.length c) L.length (L.flatMap DH)
 ids:∃D,w.ownsMap Tryz.prog 9 (plainElem (H:=Unit) Tryz.prog 3) B L.length D/\∀k:Nm,k∉L.map (·.1)->Maps.has D (.string k)=false
 newW:w0.heap.size<=W
 newB:w0.heap.size<=B
 newA:∀x∈ag a,w0.heap.size<=x
 offW:W∉ag a
 offB:B≠W/\B∉ag a
theorem Wk.cG {w':World} {L:List It} (h:Wk w0 w W B get a c L) (f:Fr [] w w'):Wk w0 w' W B get a c L:=by obtain⟨D,hD,mg⟩:=h.ids;exact⟨h.fr.trans f,f.ag h.box (by simp),dp h.own f (by simp),⟨D,IP hD f (by simp),mg⟩,h.newW,h.newB,h.newA,h.offW,h.offB⟩
theorem R8 {L:List It} (h:Wk w0 w W B get a c L) (id:Nm) (k:Nat) (hid:id.length<=1000) (bZ:id∉L.map (·.1)) (mj:L.length<=5) :
  Calls Tryz.prog 247 #[.pointer (some ⟨W,0,none⟩),.string (str id),.int .i64 (k:Nat)] w λe w'=>e = .returned (.bool true)/\∃a' c',Wk w0 w' W B get a' c' (L++[(id,k)]):=by
 obtain⟨D,hD,mg⟩:=h.ids;have hh:=mg id bZ;have nN:=OX id (by omega);have c1:=(cell_of h.box 1).trans (show _=some (Value.slice a L.length c) from rfl);have c2:=(cell_of h.box 2).trans (show _=some (Value.map (some B)) from rfl);obtain⟨M,hM⟩:=ah L.length;obtain⟨I,hI⟩:=ah (str id);obtain⟨K,hK⟩:∃K:Int,K=(k:Nat):=⟨_,rfl⟩;rw[<-hI,<-hK];rw[<-hI]at nN;rw[<-hM]at c1 hD mj;have HI:=aq hI hM hK;have H:=aA h hD nN mg;have V7:W≠B:=λe=>h.offB.1 e.symm
 clear h hD nN mg hI hM hK bZ;go_enter Tryz.func247,Tryz.ntmps247;go_upto_region 3 with (at_lookup;refine wpList_lookup_own_ok_int _ rfl _ _ 266 rfl 9 3 .i64 Ds Xy Tryz.underlying3 (zgj _) B M D rfl H.out.2.1 _ (.string id) rfl H.out.2.2.1 ?_;intro v _ _;rw[hh]);obtain⟨w3,aW,qO,Fz⟩:=(show w.drew.ownsMap _ _ _ _ _ _ from H.out.2.1).store Ds Xy (by unfold maxLen;omega) H.out.2.2.1 (plainElem_int (H:=Unit) Tryz.underlying3 (a:=(M:Nat)) (WalkArith.wf_i64 (by omega)));have Cf:(Instr.mapUpdate 266 (.map (some B)) (.string I) (.int .i64 M)).run Tryz.prog w.drew = .ok () w3:=aW;have H3:=ai qO (Tv Fz);clear qO Fz aW;have s1:∀x,(sup [B] w.drew x).cell? ⟨W,1,none⟩=some (.slice a M c):=λx=>(gB [B] w.drew x).cell (show w.drew.cell? _=_ from c1) (by simpa using V7)
 have s2:∀x,(sup [B] w.drew x).cell? ⟨W,2,none⟩=some (.map (some B)):=λx=>(gB [B] w.drew x).cell (show w.drew.cell? _=_ from c2) (by simpa using V7)
 refine lK 11 [(false,0),(false,1),(false,2),(false,3),(false,4),(false,5),(false,6),(false,7),(false,8),(false,9),(true,10)] [B] (by kernel_rfl) (by kernel_rfl) (λ_ _ d _ _ h=>by cases d<;>exact h) ?_;simp only[kQ];refine eD 10 rfl ?_;simp only[cT];repeat (go_big_quiet_step (fail))
 refine wpQuiet_nil ?_;refine jb rfl ?_;intro XX gY;go_wp2_with fail;refine gY.out _ _ H3.l1 ?_;clear gY XX s1 s2;refine j4 ?_;have b3:=H3.l1.ag (show w.drew.heap[W]?=_ from H.out.1.box) (by simpa using V7);have d1:w3.cell? ⟨W,1,none⟩=some (.slice a M c):=by rw[HI.out.2.1];exact (cell_of b3 1).trans rfl
 have z1:=aT b3 1;have fB:Fr [B] w w3:=(Fr.refl [B] w).drew.trans H3.l1;have iw:w3.ownsRow 0 359 2 (.slice a M c) M (L.flatMap DH):=by
  rw[HI.out.2.1];exact dp H.out.1.own fB (λx hx hm=>H.out.1.offB.2 (by
   rw[<-cY a L.length c,hx]
   simpa using (by simpa using hm:x=B).symm))
 have H4:=aq b3 fB iw;clear b3 fB iw;go_wp2_with (at_builtin;(refine fq zdc rfl _ _ rfl (.slice a M c) M (L.flatMap DH) (ag a) rfl (cY a M c) (dp H4.out.2.2 ((Fr.refl [] w3).alloc _) (by simp)) (some ⟨w3.heap.size,0,none⟩) 1 1 [.string I,.int .i64 K] rfl (ax _) (by simp) (oC w3 _ _ _) rfl (by simp[Value.oneCell']) (by omega) (by unfold maxLen;omega) ?_;intro a5 c5 w5 A5;have d5:w5.cell? ⟨W,1,none⟩=some (.slice a M c):=(A5.fr.cell (((Fr.refl [] w3).alloc _).cell d1 (by simp)) H.out.1.offW);have z5:=aT (A5.fr.ag (((Fr.refl [] w3).alloc _).ag H4.out.1 (by simp)) H.out.1.offW) 1;have H5:=af A5;clear A5));go_ret;obtain⟨b3,fB,iw⟩:=H4.out;have A5:=H5.out;obtain⟨h,hD,nN,mg⟩:=H.out;obtain⟨hI,hM,hK⟩:=HI.out;have sz:w.heap.size<=w3.heap.size:=fB.size;have fa:Fr [] w3 (w3.alloc (.cells #[.string I,.int .i64 K] 359)):=(Fr.refl [] w3).alloc _;have f5:Fr [W] w5 (w5.setCell ⟨W,1,none⟩ (.slice a5 (M+1) c5)):=(Fr.refl [W] w5).setCell (by simp) _;have b5:w5.heap[W]?=_:=A5.fr.ag (fa.ag b3 (by simp)) h.offW;have Rm:∀x∈ag a5,x∈ag a\/w.heap.size<=x:=λx hx=>by
  rcases A5.at_ x hx with h1|h1
  ·exact .inl h1
  ·right;rw[h1];exact bP sz fa.size
 have zbK:=lt_of_block h.box;have zbM:=hD.lt;have h05:=h.fr.size;have Jk:(L++[(id,k)]).length=M+1:=by rw[aG,<-hM];rfl
 refine⟨rfl,a5,c5,⟨?_,?_,?_,⟨D.put (.string id) (.lit (.int .i64 M)),?_,λx hx=>?_⟩,h.newW,h.newB,λx hx=>?_,λhx=>?_,⟨h.offB.1,λhx=>?_⟩⟩⟩
 ·exact (((h.fr.step fB (λx hx=>.inr (by rw[eF.1 hx];exact h.newB))).trans fa).step A5.fr (λx hx=>.inr (h.newA x hx))).step f5 (λx hx=>.inr (by rw[eF.1 hx];exact h.newW))
 ·rw[Jk];exact (df b5 _).trans rfl
 ·rw[Jk,yQ,show [(id,k)].flatMap DH=[.string I,.int .i64 K] by rw[hI,hK];rfl];exact dp A5.own f5 (λx hx hm=>by
   obtain rfl:x=W:=by simpa using hm
   rcases Rm x (by rw[<-cY a5 (M+1) c5,hx];simp) with h1|h1
   ·exact h.offW h1
   ·omega)
 ·rw[Jk];exact IP (IP (IP H3.o0 fa (by simp)) A5.fr h.offB.2) f5 (by simpa using h.offB.1)
 ·have bg:Lit.string x≠Lit.string id:=λe=>hx (by injection e with e;rw[e];simp)
  rw[Maps.has_put_other bg];exact mg x (λh1=>hx (by rw[jd];exact BK _ h1))
 ·rcases Rm x hx with h1|h1
  ·exact h.newA x h1
  ·omega
 ·rcases Rm W hx with h1|h1
  ·exact h.offW h1
  ·omega
 ·rcases Rm B hx with h1|h1
  ·exact h.offB.2 h1
  ·omega
theorem zcb (r:Nat) (id:Nm) (ra:OA) (rc:Nat) (w:World) (hr:Cs w ra [.string (str id)]) (hid:id.length<=1000) :
  Calls Tryz.prog 188 #[.func (.func 36) #[.pointer (some ⟨r,0,none⟩)] #[],.slice ra 1 rc] w λe w'=>∃W B a c,e = .returned (.pointer (some ⟨W,0,none⟩))/\Wk w w' W B (.func (.func 36) #[.pointer (some ⟨r,0,none⟩)] #[]) a c [(id,0)]:=by
 obtain⟨g,o,mE,hc⟩:=hr.at (by simp);have d0:=hc 0 _ rfl;subst mE;have nj:=@run_makeMap Tryz.prog;obtain⟨I,hI⟩:=ah (str id);rw[<-hI]at d0;have HI:=ai hI d0;clear hI hc hr d0;go_enter Tryz.func188,Tryz.ntmps188;go_upto_block 0 with fail;obtain⟨w1,aJ⟩:=ah ((w.alloc (.map #[] 0)).alloc (.cells #[.func (.func 36) #[.pointer (some ⟨r,0,none⟩)] #[],.slice none 0 0,.map (some w.heap.size),.bool false] 301));obtain⟨W,hW⟩:=ah (w.heap.size+1);obtain⟨B,hB⟩:=ah w.heap.size;have k1:Wk w w1 W B (.func (.func 36) #[.pointer (some ⟨r,0,none⟩)] #[]) none 0 []:=by
  have e:(w.alloc (.map #[] 0)).heap.size=w.heap.size+1:=Array.size_push _;refine⟨?_,?_,oE _ _ _ _,⟨.map [],?_,λk _=>rfl⟩,by omega,by omega,by simp[ag],by simp[ag],by omega,by simp[ag]⟩
  ·rw[aJ];exact ((Fr.refl [] w).alloc _).alloc _
  ·rw[aJ,hW,hB,<-e];exact aV _ _
  ·rw[aJ,hB];exact (World.ownsMap_made w _ _ _).alloc _
 rw[<-aJ,<-hW];have HK:=ai k1 hB;clear hW hB aJ k1 nj;go_wp2;go_loopg [14] 1 (λk s14 wr=>∃i:Nat,s14 = .int .i64 (i:Nat)/\i+k=1/\(i=0->wr=w1)/\(i=1->∃a c,Wk w wr W B (.func (.func 36) #[.pointer (some ⟨r,0,none⟩)] #[]) a c [(id,0)]));case atStart=>exact⟨0,rfl,by omega,λ_=>rfl,λh=>by cases h⟩
 case round=>
  obtain⟨i,rfl,cQ,h0,h1⟩:=hrel;by_cases hi:i=0
  ·obtain rfl:gk=0+1:=by omega
   have ew:=h0 hi;subst hi;have d0:wr.cell? ⟨g,o,none⟩=some (.string I):=by rw[ew];exact HK.o0.fr.cell HI.l1 (by simp)
   have e0:=af ew;clear h0 h1 ew;go_wp2_with (go_at_call 247;(refine ((by rw[HI.o0,e0.out];exact R8 HK.o0 id 0 hid (by simp) (by simp)):Calls Tryz.prog 247 #[.pointer (some ⟨W,0,none⟩),.string I,.int .i64 0] wr λe w'=>e = .returned (.bool true)/\∃a' c',Wk w w' W B (.func (.func 36) #[.pointer (some ⟨r,0,none⟩)] #[]) a' c' ([]++[(id,0)])).mono ?_;rintro e w2 ⟨rfl,h2⟩;have H2:=af h2;clear h2));go_roundg 0;case measure=>omega
   case rel=>exact⟨1,rfl,by omega,(λh=>by cases h),λ_=>H2.out⟩
  ·obtain rfl:i=1:=by omega
   obtain rfl:gk=0:=by omega
   have H1:=af (h1 rfl);clear h0 h1;go_wp2;go_ret;obtain⟨a,c,h⟩:=H1.out;exact⟨W,rfl,B,a,c,h⟩
end ob
namespace lib
open Go
inductive OT (α:Type) where
 | done:OT α
 | one (e:Bool) (x:α) (t:OT α):OT α
 | two (x:α) (t:OT α) (y:α) (u:OT α):OT α
def OT.map {α β:Type} (f:α->β):OT α->OT β
 | .done=>.done
 | .one e x t=>.one e (f x) (t.map f)
 | .two x t y u=>.two (f x) (t.map f) (f y) (u.map f)
def OT.len {α:Type}:OT α->Nat
 | .done=>0
 | .one _ _ t=>t.len+1
 | .two _ t _ _=>t.len+1
section
variable {P : Program} {ops : Array Oper} {Q : Exit -> Act -> World -> Prop} {md : Region.Mode}
def vv (P:Program) (ops:Array Oper) (S:LN) (Q:Exit->Act->World->Prop) (o:Oper) (K:Act->World->Prop) (a:Act) (w:World):Prop:=
 if Region.wanted o (yielded ops a.tmps) then o.wp P a w (λa' w'=>Fr S w w'/\K a' w') Q else K (a.put o.dst undef) w
def jh (P:Program) (ops:Array Oper) (S:LN) (Q:Exit->Act->World->Prop) (tail:List Oper):OT Oper->Act->World->Prop
 | .done,a,w=>wpList P ops Q tail a w
 | .one false o t,a,w=>if Region.wanted o (yielded ops a.tmps) then o.quiet P a (fC S w) (λa'=>jh P ops S Q tail t a' w) else jh P ops S Q tail t (a.put o.dst undef) w
 | .one true o t,a,w=>vv P ops S Q o (jh P ops S Q tail t) a w
 | .two o t p u,a,w=>vv P ops S Q o (jh P ops S Q tail t) a w/\vv P ops S Q p (jh P ops S Q tail u) a w
def mX (md:Region.Mode) (ops:Array Oper) (n:Nat):OT Nat->Array Bool->Bool
 | .done,listed=>Region.seqB md ops (ops.size-n) n listed
 | .one e i t,listed=>decide (i<n)&&(match e with
   | true=>decide (Region.ready md ops listed=[i])
   | false=>(Region.ready md ops listed).contains i&&Region.free md ops listed i&&(match ops[i]? with|some o=>jv o.op|none=>false))&&mX md ops n t (listed.setIfInBounds i true)
 | .two i t j u,listed=>decide (i<n)&&decide (j<n)&&decide (Region.ready md ops listed=[i,j])&&decide (t.len=u.len)&&mX md ops n t (listed.setIfInBounds i true)&&mX md ops n u (listed.setIfInBounds j true)
def vR (md:Region.Mode) (ops:Array Oper) (n:Nat) (order:OT Nat):Bool:=
 Region.noSelect ops&&(decide (n=ops.size)||(decide (n<ops.size)&&Region.sinkB md ops n&&Region.chainB md ops n))&&decide (order.len+(ops.size-n)=ops.size)&&mX md ops n order (Array.replicate ops.size false)
theorem Sw {S:LN} {n i f:Nat} {oi:Oper} (fD:i<n) (dQ:ops[i]?=some oi) {listed:Array Bool} {K:Act->World->Prop} {a:Act} {w:World}
  (hK:∀a' w',K a' w'->lT P md ops Q n (fC S w') f listed a' w') (h:vv P ops S Q oi K a w) :
  wpOp P ops Q i (λa' w'=>(i<n->fC S w w')/\lT P md ops Q n (fC S w) f listed a' w') a w:=by
 unfold wpOp;simp only[dQ];unfold vv at h;by_cases hw:Region.wanted oi (yielded ops a.tmps)=true
 ·rw[if_pos hw]at h;rw[if_pos hw];left;exact Oper.wp_mono (λa' w' h'=>⟨λ_=>fC.of h'.1,PA (fC.sub h'.1) _ _ _ _ (hK a' w' h'.2)⟩) h
 ·rw[if_neg hw]at h;rw[if_neg hw];exact⟨λ_=>fC.of (Fr.refl _ _),hK _ _ h⟩
theorem qlh {n i:Nat} {oi:Oper} {v:Value} {C:World->Prop} {I:Array Bool->Prop} (hI:∀listed j,I listed->j∈Region.ready md ops listed->j<n->I (listed.setIfInBounds j true)) (hi:ops[i]?=some oi) (bQ:∀(j:Nat) (o:Oper) cs b,ops[j]?=some o->o.op≠.select cs b)
  (hQ:∀c a d v w,Q (.panic c) (Act.put a d v) w->Q (.panic c) a w) (fD:i<n)
  (hT:∀listed,I listed->listed.getD i true=false->∀t,n<=t->t∉Region.ready md ops listed) :
  ∀(f:Nat) (listed:Array Bool) (a:Act) (w:World),I listed->
   (∀j oj,ops[j]?=some oj->j≠i->listed.getD j true=false->(∀e∈oj.after,Region.binds md e=true->e.on≠i)->oi.apart ops oj=true)->
   i∈Region.ready md ops listed->QY P ops C oi v a->C w->
   lT P md ops Q n C f (listed.setIfInBounds i true) (a.put oi.dst v) w->lT P md ops Q n C (f+1) listed a w:=by
 intro f;induction f with
 | zero=>
  intro listed a w inv _ hr hy hC H;refine⟨λh=>(by rw[h]at hr;cases hr),λj hj=>?_⟩;by_cases jr:j=i
  ·subst jr;exact hy.op hi hC ⟨λ_=>hC,H⟩
  ·have:=ready_mono hj jr;rw[H.1]at this;cases this
 | succ f ih=>
  intro listed a w inv nr hr hy hC H;have kA:=(mem_ready.1 hr).1;refine⟨λh=>(by rw[h]at hr;cases hr),λj hj=>?_⟩;by_cases jr:j=i
  ·subst jr;exact hy.op hi hC ⟨λ_=>hC,H⟩
  ·have Cq:j<n:=by
    rcases kT j n with h|h
    ·exact h
    ·exact absurd hj (hT listed inv kA j h)
   have h1:=H.2 j (ready_mono hj jr);obtain⟨tN,oj,oV,ct⟩:=mem_ready.1 hj;have zk:∀e∈oj.after,Region.binds md e=true->e.on≠i:=λe he hb heq=>by have h1:=ct e he hb;rw[heq,getD_both kA]at h1;cases h1
   have h2:=Ti oV (nr j oj oV jr tN zk) (λcs b=>bQ i oi cs b hi) (λcs b=>bQ j oj cs b oV) hQ hy h1;have pg:∀k ok,ops[k]?=some ok->k≠i->(listed.setIfInBounds j true).getD k true=false->
     (∀e∈ok.after,Region.binds md e=true->e.on≠i)->oi.apart ops ok=true:=λk ok hk MS tM mg=>by
    refine nr k ok hk MS ?_ mg
    by_cases fP:j=k
    ·subst fP;exact tN
    ·rw[getD_set_ne true fP]at tM;exact tM
   refine wpOp_mono (λa' w' h3=>⟨h3.2.1,?_⟩) h2;refine ih (listed.setIfInBounds j true) a' w' (hI _ _ inv hj Cq) pg (ready_mono hr (pM jr)) h3.1 (h3.2.1 Cq) ?_;rw[Array.setIfInBounds_comm _ _ jr];exact h3.2.2
theorem EV {n:Nat} {S:LN} {I:Array Bool->Prop} (hI:∀listed j,I listed->j∈Region.ready md ops listed->j<n->I (listed.setIfInBounds j true)) {l:List Oper} (hl:ops=l.toArray) (bQ:Region.noSelect ops=true) (hQ:∀c a d v w,Q (.panic c) (Act.put a d v) w->Q (.panic c) a w)
  (hT:∀i,i<n->∀listed,I listed->listed.getD i true=false->∀t,n<=t->t∉Region.ready md ops listed) :
  ∀(order:OT Nat) (listed:Array Bool) (a:Act) (w:World),I listed->mX md ops n order listed=true->
   jh P ops S Q (l.drop n) (order.map λx=>l.getD x default) a w->lT P md ops Q n (fC S w) (order.len+(ops.size-n)) listed a w
 | .done,listed,a,w,_,hB,h=>by
  have hlen:(l.drop n).length=ops.size-n:=by rw[hl];simp
  have:=PY (P:=P) (Q:=Q) (md:=md) (ops:=ops) (n:=n) (C:=fC S w) (l.drop n) n listed a w (ax _) (λj=>by rw[hl];simp[EZ]) (by rw[hlen];exact hB) h;simpa[hlen,OT.len] using this
 | .one e i t,listed,a,w,inv,hB,h=>by
  simp only[mX,kI,decide_eq_true_eq]at hB;obtain⟨⟨fD,he⟩,bE⟩:=hB;have hlen:(OT.one e i t).len+(ops.size-n)=t.len+(ops.size-n)+1:=by simp[OT.len];omega
  rw[hlen];cases e with
  | false=>
   simp only[kI]at he;obtain⟨⟨hr,hf⟩,hk⟩:=he;have eZ:i∈Region.ready md ops listed:=by simpa using hr
   obtain⟨_,oi,dQ,_⟩:=mem_ready.1 eZ;rw[dQ]at hk;have hd:l.getD i default=oi:=by rw[hl]at dQ;simp at dQ;simp[List.getD,dQ]
   simp only[OT.map,hd,jh]at h;have hC:fC S w w:=fC.of (Fr.refl _ _);by_cases hw:Region.wanted oi (yielded ops a.tmps)=true
   ·rw[if_pos hw]at h;obtain⟨v,h1,h2⟩:=h;have hy:QY P ops (fC S w) oi v a:=.inl ⟨hw,λu hu=>KY hk (h1 u hu)⟩;exact qlh hI dQ (Av bQ) hQ fD (hT i fD) _ listed a w inv (Aq dQ hf) eZ hy hC (EV hI hl bQ hQ hT t _ _ w (hI _ _ inv eZ fD) bE h2)
   ·rw[if_neg hw]at h;have hy:QY P ops (fC S w) oi undef a:=.inr ⟨by simpa using hw,rfl⟩;exact qlh hI dQ (Av bQ) hQ fD (hT i fD) _ listed a w inv (Aq dQ hf) eZ hy hC (EV hI hl bQ hQ hT t _ _ w (hI _ _ inv eZ fD) bE h)
  | true=>
   simp only[decide_eq_true_eq]at he;have eZ:i∈Region.ready md ops listed:=by rw[he];simp
   obtain⟨_,oi,dQ,_⟩:=mem_ready.1 eZ;have hd:l.getD i default=oi:=by rw[hl]at dQ;simp at dQ;simp[List.getD,dQ]
   simp only[OT.map,hd,jh]at h;refine⟨λh0=>(by rw[h0]at eZ;cases eZ),λj hj=>?_⟩;rw[he]at hj;have jr:j=i:=by simpa using hj
   subst jr;exact Sw fD dQ (λa' w' h'=>EV hI hl bQ hQ hT t _ a' w' (hI _ _ inv eZ fD) bE h') h
 | .two i t j u,listed,a,w,inv,hB,h=>by
  simp only[mX,kI,decide_eq_true_eq]at hB;obtain⟨⟨⟨⟨⟨fD,Cq⟩,he⟩,htu⟩,ht⟩,hu⟩:=hB;have hlen:(OT.two i t j u).len+(ops.size-n)=t.len+(ops.size-n)+1:=by simp[OT.len];omega
  rw[hlen];have FD:i∈Region.ready md ops listed:=by rw[he];simp
  have hrj:j∈Region.ready md ops listed:=by rw[he];simp
  obtain⟨_,oi,dQ,_⟩:=mem_ready.1 FD;obtain⟨_,oj,oV,_⟩:=mem_ready.1 hrj;have xC:l.getD i default=oi:=by rw[hl]at dQ;simp at dQ;simp[List.getD,dQ]
  have hdj:l.getD j default=oj:=by rw[hl]at oV;simp at oV;simp[List.getD,oV]
  simp only[OT.map,xC,hdj,jh]at h;refine⟨λh0=>(by rw[h0]at FD;cases FD),λk hk=>?_⟩;rw[he]at hk;rcases eX.1 hk with hk|hk
  ·subst hk;exact Sw fD dQ (λa' w' h'=>EV hI hl bQ hQ hT t _ a' w' (hI _ _ inv FD fD) ht h') h.1
  ·have hk:k=j:=by simpa using hk
   subst hk;rw[htu];exact Sw Cq oV (λa' w' h'=>EV hI hl bQ hQ hT u _ a' w' (hI _ _ inv hrj Cq) hu h') h.2
theorem qs8 {id:Nat} {a:Act} {w:World} {l:List Oper} (n:Nat) (order:OT Nat) (S:LN) (hm:P.follows .mixedOrders=true) (hB:vR .any l.toArray n order=true)
  (hQ:∀c a d v w,Q (.panic c) (Act.put a d v) w->Q (.panic c) a w)
  (h:jh P l.toArray S Q (l.drop n) (order.map λx=>l.getD x default) a w.drew):(Code.region id l.toArray true).wp P Q a w:=by
 simp only[vR,kI,decide_eq_true_eq,Hs]at hB;obtain⟨⟨⟨bQ,hn⟩,hlen⟩,rH⟩:=hB;have uL:HeadInv .any l.toArray n (Array.replicate l.toArray.size false):=
  ⟨by simp,λj oj _ hl=>(by rw[getD_replicate_false]at hl;cases hl),λt _ ht=>getD_in (by simpa using ht) (getD_replicate_false _ _)⟩
 have hT:∀i,i<n->∀listed,HeadInv .any l.toArray n listed->listed.getD i true=false->∀t,n<=t->t∉Region.ready .any l.toArray listed:=by
  intro i hi listed inv kA t ht hr;rcases hn with hn|⟨⟨hn,hs⟩,hc⟩
  ·obtain⟨_,o,ho,_⟩:=mem_ready.1 hr;have:=(Oy.1 ho).1;omega
  ·exact tail_waits hs hc hn inv _ i rfl hi kA t ht hr
 refine wp_region_any hm (KU (n:=n) (C:=fC S w.drew) _ _ _ _ ?_);have:=EV (P:=P) (Q:=Q) (md:=.any) (n:=n) (S:=S) (I:=HeadInv .any l.toArray n) (λ_ _ h1 h2 h3=>h1.set h2 h3) rfl bQ hQ hT order _ a w.drew uL rH h;rw[hlen]at this;exact this
def CV (md:Region.Mode) (ops:Array Oper) (n p:Nat):Bool:=
 (List.range n).all λi=>i==p||(List.range (n+1)).any λj=>decide (i<j)&&Region.waitsFor md ops j i
theorem qsw {n p:Nat} {listed:Array Bool} (hs:CV md ops n p=true) (hc:Region.chainB md ops n=true) (inv:HeadInv md ops n listed) (hp:listed.getD p true=true) :
  ∀(d i:Nat),n-i=d->i<n->listed.getD i true=false->∀t,n<=t->t∉Region.ready md ops listed:=by
 intro d;induction d using Nat.strongRecOn with
 | _ d ih=>
  intro i hd hi kA t ht hr;obtain⟨_,ot,Ve,ct⟩:=mem_ready.1 hr;have UR:t<ops.size:=(Oy.1 Ve).1;rcases kT n t with Qm|Qm
  ·have h1:=ER.1 hc t (uH.2 UR);simp only[Hs,decide_eq_true_eq]at h1;rcases h1 with h1|h1
   ·omega
   ·obtain⟨oj,oV,e,he,hb,Qs⟩:=Region.waitsFor_spec h1;rw[Ve]at oV;cases oV;have h2:=ct e he hb;rw[Qs]at h2;have h3:=inv.tail (t-1) (by omega) (by omega);rw[getD_both h3]at h2;cases h2
  ·obtain rfl:t=n:=by omega
   have h1:=ER.1 hs i (uH.2 hi);simp only[Hs,beq_iff_eq]at h1;rcases h1 with rfl|h1
   ·rw[hp]at kA;cases kA
   ·obtain⟨j,hj,uZ⟩:=Hz.1 h1;simp only[kI,decide_eq_true_eq]at uZ;obtain⟨oj,oV,e,he,hb,Qs⟩:=Region.waitsFor_spec uZ.2;have zbA:j<=t:=by have:=uH.1 hj;omega
    rcases kT j t with MU|MU
    ·have FZ:listed.getD j true=false:=by
      cases nO:listed.getD j true with
      | false=>rfl
      | true=>
       have hjs:j<listed.size:=by rw[inv.size];omega
       have hjf:listed.getD j false=true:=by simp[hjs]at nO ⊢;exact nO
       have h2:=inv.closed j oj oV hjf e he hb;rw[Qs,getD_both kA]at h2;cases h2
     exact ih (t-j) (by omega) j rfl MU FZ t (ax _) hr
    ·obtain rfl:j=t:=by omega
     rw[Ve]at oV;cases oV;have h2:=ct e he hb;rw[Qs,getD_both kA]at h2;cases h2
def vS (md:Region.Mode) (ops:Array Oper) (n p:Nat) (order:OT Nat):Bool:=
 Region.noSelect ops&&decide (n<ops.size)&&decide (p<n)&&CV md ops n p&&Region.chainB md ops n&&Region.free md ops (Array.replicate ops.size false) p&&(Region.ready md ops (Array.replicate ops.size false)).contains p&&decide (order.len+(ops.size-n)+1=ops.size)&&mX md ops n order ((Array.replicate ops.size false).setIfInBounds p true)
theorem ql9 {id:Nat} {a:Act} {w:World} {l:List Oper} (n p:Nat) (v:Value) (order:OT Nat) (S:LN) (hm:P.follows .mixedOrders=true) (hB:vS .any l.toArray n p order=true)
  (hQ:∀c a d v w,Q (.panic c) (Act.put a d v) w->Q (.panic c) a w) (hy:Yields P l.toArray (l.getD p default) v a)
  (h:jh P l.toArray S Q (l.drop n) (order.map λx=>l.getD x default) (a.put (l.getD p default).dst v) w.drew):(Code.region id l.toArray true).wp P Q a w:=by
 simp only[vS,kI,decide_eq_true_eq]at hB;obtain⟨⟨⟨⟨⟨⟨⟨⟨bQ,hn⟩,FK⟩,hs⟩,hc⟩,hf⟩,hr⟩,hlen⟩,rH⟩:=hB;have jq:p<l.length:=by simp at hn;omega
 have DS:l.toArray[p]?=some (l.getD p default):=by simp[List.getD,jq]
 have uL:HeadInv .any l.toArray n (Array.replicate l.toArray.size false):=
  ⟨by simp,λj oj _ hl=>(by rw[getD_replicate_false]at hl;cases hl),λt _ ht=>getD_in (by simpa using ht) (getD_replicate_false _ _)⟩
 have inv1:=uL.set (by simpa using hr) FK;refine wp_region_any hm ?_;have cZ:l.toArray.size=order.len+(l.toArray.size-n)+1:=hlen.symm;rw[cZ];refine wpAny_take (v:=v) DS bQ (by rw[<-cZ];exact hf) (by rw[<-cZ];exact hr) (λc a' w' h'=>hQ _ _ _ _ _ h') hy ?_;rw[<-cZ];refine KU (n:=n) (C:=fC S w.drew) _ _ _ _ ?_;exact EV (P:=P) (Q:=Q) (md:=.any) (n:=n) (S:=S) (I:=λx=>HeadInv .any l.toArray n x/\x.getD p true=true) (λx j h1 h2 h3=>⟨h1.1.set h2 h3,by
   by_cases hjp:j=p
   ·subst hjp
    have:=inv1.size
    have hj:j<x.size:=by rw[h1.1.size];simpa using jq
    simp[hj]
   ·rw[getD_set_ne true hjp];exact h1.2⟩) rfl bQ hQ (λi hi x hx kA t ht=>qsw hs hc hx.1 hx.2 _ i rfl hi kA t ht) order _ _ w.drew ⟨inv1,by simp[jq]⟩ rH h
def OT.kb {α:Type}:Nat->OT α->List α
 | 0,_=>[]
 | k+1,.one false x t=>x::t.kb k
 | _+1,_=>[]
def OT.behind {α:Type}:Nat->OT α->OT α
 | 0,t=>t
 | k+1,.one false _ t=>t.behind k
 | _+1,t=>t
theorem Ky {S:LN} {tail:List Oper} (k:Nat) {t:OT Oper} {a:Act} {w:World}
  (h:wpQuiet P ops (fC S w) (λa'=>jh P ops S Q tail (t.behind k) a' w) (t.kb k) a):jh P ops S Q tail t a w:=by
 induction k generalizing t a with
 | zero=>exact h
 | succ k ih=>
  cases t with
  | done=>exact h
  | two _ _ _ _=>exact h
  | one e o t=>
   cases e with
   | true=>exact h
   | false=>
    simp only[OT.kb,OT.behind,wpQuiet]at h;unfold jh;by_cases hw:Region.wanted o (yielded ops a.tmps)=true
    ·rw[if_pos hw]at h ⊢;obtain⟨v,h1,h2⟩:=h;exact⟨v,h1,ih h2⟩
    ·rw[if_neg hw]at h ⊢;exact ih h
theorem SU {S:LN} {o:Oper} {a:Act} {w:World} {K:Act->World->Prop} (hw:Region.wanted o (yielded ops a.tmps)=true)
  (h:∀K':Act->World->Prop,Go.RowKit.Hid (∀a' w',Fr S w w'->K a' w'->K' a' w')->o.wp P a w K' Q):vv P ops S Q o K a w:=by
 unfold vv;rw[if_pos hw];exact h _ λ_ _ h1 h2=>⟨h1,h2⟩
theorem uk {S:LN} {tail:List Oper} {t:OT Oper} {o:Oper} {a:Act} {w:World} (hw:Region.wanted o (yielded ops a.tmps)=true)
  (h:∀K:Act->World->Prop,Go.RowKit.Hid (∀a' w',Fr S w w'->jh P ops S Q tail t a' w'->K a' w')->o.wp P a w K Q):jh P ops S Q tail (.one true o t) a w:=
 SU hw h
theorem Kz {S:LN} {tail:List Oper} {t u:OT Oper} {o p:Oper} {a:Act} {w:World} (ho:Region.wanted o (yielded ops a.tmps)=true) (hp:Region.wanted p (yielded ops a.tmps)=true)
  (h1:∀K:Act->World->Prop,Go.RowKit.Hid (∀a' w',Fr S w w'->jh P ops S Q tail t a' w'->K a' w')->o.wp P a w K Q)
  (h2:∀K:Act->World->Prop,Go.RowKit.Hid (∀a' w',Fr S w w'->jh P ops S Q tail u a' w'->K a' w')->p.wp P a w K Q):jh P ops S Q tail (.two o t p u) a w:=
 ⟨SU ho h1,SU hp h2⟩
theorem Di {S:LN} {tail:List Oper} {a:Act} {w:World} (h:wpList P ops Q tail a w):jh P ops S Q tail .done a w:=h
end
end lib
namespace pkt
open Go Go.RowKit lib
abbrev Ln:=Int×List UInt8
def bL (k:Nat):UInt8:=UInt8.ofNat (if k<10 then 48+k else 87+k)
def ph (n:Nat):List UInt8:=[bL (n/4096%16),bL (n/256%16),bL (n/16%16),bL (n%16)]
def bad (x:Ln):Nat:=if x.1<1\/4<x.1\/(x.1=1/\x.2=[]) then 3 else if x.1=1/\65516<x.2.length then 5 else 0
def one (x:Ln):List UInt8:=if x.1=1 then ph (x.2.length+4)++x.2 else ph (x.1-2).toNat
def gZ:List Ln->Nat
 | []=>0
 | x::r=>if bad x=0 then gZ r else bad x
def lz:List Ln->List UInt8
 | []=>[]
 | x::r=>one x++lz r
def enc (l:List Ln):List UInt8×Nat:=if gZ l=0 then (lz l,0) else ([],gZ l)
def digit (c:UInt8):Option Nat:=if 48<=c.toNat/\c.toNat<=57 then some (c.toNat-48) else if 97<=c.toNat/\c.toNat<=102 then some (c.toNat-87) else none
def jn (n:Nat):List UInt8->Option Nat
 | []=>some n
 | c::r=>match digit c with
  | some v=>jn (16*n+v) r
  | none=>none
def num (r:LB):Option Nat:=jn 0 (r.take 4)
def dec:Nat->List UInt8->Nat->List Ln->List Ln×Nat×Nat
 | 0,_,a,l=>(l,a,0)
 | f+1,r,a,l=>if r.length<4 then (l,a,0) else match num r with
  | none=>([],0,3)
  | some n=>if n=3\/n=4 then ([],0,3) else if 65520<n then ([],0,5) else if n<3 then dec f (r.drop 4) (a+4) (l++[((2:Int)+n,[])]) else if r.length<n then (l,a,0) else dec f (r.drop n) (a+n) (l++[((1:Int),(r.take n).drop 4)])
def decode (b:LB):List Ln×Nat×Nat:=dec b.length b 0 []
def side (CN:UInt8) (c:Nat):Nat->List UInt8->List Ln
 | 0,_=>[]
 | f+1,bs=>if bs=[] then [] else ((1:Int),CN::bs.take c)::side CN c f (bs.drop c)
theorem SS {c:UInt8} {v:Nat} (h:digit c=some v):v<16:=by
 unfold digit at h;split at h
 ·simp at h;omega
 ·split at h
  ·simp at h;omega
  ·cases h
theorem qxz (k:Nat) (h:k<16):digit (bL k)=some k:=by
 have:∀k:Fin 16,digit (bL k.1)=some k.1:=by decide
 exact this ⟨k,h⟩
theorem KO (n:Nat):(ph n).length=4:=rfl
theorem zhz (r:LB):∀n m,jn n r=some m->m<(n+1)*16^r.length:=by
 induction r with
 | nil=>intro n m h;simp[jn]at h;simp;omega
 | cons c r ih=>
  intro n m h;simp only[jn]at h;split at h
  ·rename_i v hv;have h1:=ih _ _ h;have h2:=SS hv;have h3:(16*n+v+1)*16^r.length<=(16*(n+1))*16^r.length:=Aw _ (by omega);rw[dw,qJ,pO (16^r.length) 16,<-uq,pO (n+1) 16];omega
  ·cases h
theorem Ij {r:LB} {n:Nat} (h:num r=some n):n<65536:=by
 have h1:=zhz _ _ _ h;have h2:(r.take 4).length<=4:=by simp;omega
 have h3:16^(r.take 4).length<=16^4:=lJ (by decide) h2;simp at h1 h3 ⊢;omega
open bm
variable {bs:LB}
theorem BW (n v:Nat) (hn:n<65536) (hv:v<16):bits .or .i64 (wrap64 ((n:Int)*16)) (v:Int)=((16*n+v:Nat):Int):=by
 have e:wrap64 ((n:Int)*16)=(n:Int)*((2^4:Nat):Int):=by simp only[wrap64];omega
 rw[e,XP n v 4 (by decide) hv (by omega)];omega
def sz (bs:LB):Nat×Bool:=match num bs with
 | some n=>if n=3\/n=4 then (0,false) else (n,true)
 | none=>(0,false)
theorem O9 (h:num bs=none):sz bs=(0,false):=by unfold sz;rw[h]
theorem R7 {n:Nat} (h:num bs=some n) (hn:n=3\/n=4):sz bs=(0,false):=by unfold sz;rw[h];exact if_pos hn
theorem YG {n:Nat} (h:num bs=some n) (hn:¬(n=3\/n=4)):sz bs=(n,true):=by unfold sz;rw[h];exact if_neg hn
theorem zdg (ao:OA) (cap:Nat) (bs:LB) (w:World) (h4:4<=bs.length) (hle:bs.length<=cap) (dI:cap<=9223372036854775807) (hcs:Cs w ao (bs.map bv)) :
  Calls Tryz.prog 146 #[.slice ao bs.length cap] w λe w'=>e = .returned (.tuple #[.int .i64 (sz bs).1,.bool (sz bs).2])/\w=w':=by
 obtain⟨g,o,rfl,hc⟩:=hcs.at (by simp;omega);have Bc:∀i,i<4->w.cell? ⟨g,o+i,none⟩=some (bv (bs.getD i 0)):=λi hi=>hc i _ (by simp[List.getD,show i<bs.length from by omega])
 have Hc:=af Bc;clear hc Bc hcs;go_enter Tryz.func146,Tryz.ntmps146;go_wp2;refine wp_scope_jumps 0 (λa' w'=>w=w'/\sz bs=(0,false)/\∃u2 u3 u4 u5 u6 u7 u8 u9 u10 u11 u12 u13 u14 u15 u16 u17 u18 u19 u20 u21 u22 u23 u24 u25 u26 u27 u28 u29 u30 u31 u32 u33 u34 u35 u36 u37 u38 u39 u40 u41 u42 u43 u44 u45 u46 u47:Value,a'={ tmps:=#[.slice (some ⟨g,o,none⟩) bs.length cap,undef,u2,u3,u4,u5,u6,u7,u8,u9,u10,u11,u12,u13,u14,u15,u16,u17,u18,u19,u20,u21,u22,u23,u24,u25,u26,u27,u28,u29,u30,u31,u32,u33,u34,u35,u36,u37,u38,u39,u40,u41,u42,u43,u44,u45,u46,u47],defers:=[] }) (λ_ _=>0) rfl ?_ ?_
 ·go_wp2;go_loopg [2,9] 4 (λk s2 s9 wr=>∃(i n:Nat),i+k=4/\s9 = .int .i64 i/\s2 = .int .i64 n/\n<16^i/\jn n ((bs.take 4).drop i)=num bs/\w=wr);case atStart=>exact⟨0,0,rfl,rfl,rfl,by decide,rfl,rfl⟩
  case round=>
   obtain⟨i,n,hi,rfl,rfl,hn,hd,rfl⟩:=hrel;by_cases hi4:i<4
   ·have AQ:n<4096:=by
     have:16^i<=16^3:=lJ (by decide) (by omega);have e:(16:Nat)^3=4096:=by decide
     omega
    have hdr:(bs.take 4).drop i=bs.getD i 0::(bs.take 4).drop (i+1):=by rw[xg (by simp;omega)];congr 1;simp[List.getD,show i<bs.length from by omega]
    rw[hdr]at hd;have c0:=Hc.out i hi4;have hb:=mW (bs.getD i 0);unfold bv at c0;generalize hx:bs.getD i 0=x at *;have Hd:=af hd;have Hn:=af hn;obtain⟨xn,LK⟩:∃xn,x.toNat=xn:=⟨_,rfl⟩;have Hx:=af LK;rw[LK]at c0 hb;clear hd hn hx hdr LK;by_cases h1:48<=xn/\xn<=57
    ·have b1:decide ((48:Int)<=xn)=true:=by simp;omega
     have b2:decide ((xn:Int)<=57)=true:=by simp;omega
     have b3:((xn:Int)-48)%256=((xn-48:Nat):Int):=by omega
     have e1:digit x=some (xn-48):=by unfold digit;rw[Hx.out,if_pos h1]
     have HE:=ai e1 (BW n (xn-48) (by omega) (by omega));clear e1;go_wp2;go_roundg (4-(i+1));case measure=>omega
     case rel=>
      have hd:=Hd.out;rw[jn,HE.out.1]at hd;refine⟨i+1,16*n+(xn-48),by omega,by go_num,?_,?_,hd,rfl⟩
      ·rw[<-HE.out.2];congr 2<;>first|omega|(simp only[wrap64];omega)
      ·have:=Hn.out;rw[qJ];omega
    ·by_cases h2:97<=xn/\xn<=102
     ·have b1:decide ((48:Int)<=xn)=true:=by simp;omega
      have b2:decide ((xn:Int)<=57)=false:=by simp;omega
      have b4:decide ((97:Int)<=xn)=true:=by simp;omega
      have b5:decide ((xn:Int)<=102)=true:=by simp;omega
      have b3:((xn:Int)-97)%256=((xn-97:Nat):Int):=by omega
      have e1:digit x=some (xn-87):=by unfold digit;rw[Hx.out,if_neg h1,if_pos h2]
      have HE:=ai e1 (BW n (xn-87) (by omega) (by omega));clear e1;go_wp2;go_roundg (4-(i+1));case measure=>omega
      case rel=>
       have hd:=Hd.out;rw[jn,HE.out.1]at hd;refine⟨i+1,16*n+(xn-87),by omega,by go_num,?_,?_,hd,rfl⟩
       ·rw[<-HE.out.2];congr 2<;>first|omega|(simp only[wrap64];omega)
       ·have:=Hn.out;rw[qJ];omega
     ·have e1:num bs=none:=by rw[<-Hd.out,jn];unfold digit;rw[Hx.out,if_neg h1,if_neg h2]
      have HE:=af e1;clear e1;by_cases h3:48<=xn
      ·have b1:decide ((48:Int)<=xn)=true:=by simp;omega
       have b2:decide ((xn:Int)<=57)=false:=by simp;omega
       by_cases h4:97<=xn
       ·have b4:decide ((97:Int)<=xn)=true:=by simp;omega
        have b5:decide ((xn:Int)<=102)=false:=by simp;omega
        go_wp2;go_step3;exact⟨rfl,rfl,O9 HE.out,_,_,_,_,_,_,_,_,_,_,_,_,_,_,_,_,_,_,_,_,_,_,_,_,_,_,_,_,_,_,_,_,_,_,_,_,_,_,_,_,_,_,_,_,_,_,rfl⟩
       ·have b4:decide ((97:Int)<=xn)=false:=by simp;omega
        go_wp2;go_step3;exact⟨rfl,rfl,O9 HE.out,_,_,_,_,_,_,_,_,_,_,_,_,_,_,_,_,_,_,_,_,_,_,_,_,_,_,_,_,_,_,_,_,_,_,_,_,_,_,_,_,_,_,_,_,_,_,rfl⟩
      ·have b1:decide ((48:Int)<=xn)=false:=by simp;omega
       have b4:decide ((97:Int)<=xn)=false:=by simp;omega
       go_wp2;go_step3;exact⟨rfl,rfl,O9 HE.out,_,_,_,_,_,_,_,_,_,_,_,_,_,_,_,_,_,_,_,_,_,_,_,_,_,_,_,_,_,_,_,_,_,_,_,_,_,_,_,_,_,_,_,_,_,_,rfl⟩
   ·obtain rfl:i=4:=by omega
    rw[Ax (by simp;omega),jn]at hd;by_cases xt:n=3
    ·subst xt;go_wp2;go_step3;exact⟨rfl,rfl,R7 hd.symm (.inl rfl),_,_,_,_,_,_,_,_,_,_,_,_,_,_,_,_,_,_,_,_,_,_,_,_,_,_,_,_,_,_,_,_,_,_,_,_,_,_,_,_,_,_,_,_,_,_,rfl⟩
    ·by_cases AQ:n=4
     ·subst AQ;go_wp2;go_step3;exact⟨rfl,rfl,R7 hd.symm (.inr rfl),_,_,_,_,_,_,_,_,_,_,_,_,_,_,_,_,_,_,_,_,_,_,_,_,_,_,_,_,_,_,_,_,_,_,_,_,_,_,_,_,_,_,_,_,_,_,rfl⟩
     ·have b3:((n:Int)==3)=false:=by simp;omega
      have b4:((n:Int)==4)=false:=by simp;omega
      have e:=YG hd.symm (by omega);have HE:=af e;clear hd e;go_wp2;simp only[Exit.jump];go_ret2;rw[HE.out];exact⟨rfl,rfl⟩
 ·rintro a' w' ⟨rfl,hz,u2,u3,u4,u5,u6,u7,u8,u9,u10,u11,u12,u13,u14,u15,u16,u17,u18,u19,u20,u21,u22,u23,u24,u25,u26,u27,u28,u29,u30,u31,u32,u33,u34,u35,u36,u37,u38,u39,u40,u41,u42,u43,u44,u45,u46,u47,rfl⟩;go_wp2;simp only[Exit.jump];go_ret2;rw[hz];exact⟨rfl,rfl⟩
end pkt
namespace lib
open Go Go.RowKit
theorem aEs:aw Tryz.prog 35 5 (.int .u8 0) 1 1:=aw.of Tryz.underlying35 (by kernel_rfl) rfl (by decide)
theorem qI (bs:LB):∀u∈bs.map bv,u.oneCell'=true:=by intro u hu;obtain⟨b,_,rfl⟩:=mU.1 hu;rfl
def r9 (w:World) (bs:LB) (e:Ending) (w':World):Prop:=
 ∃ao cap,e = .returned (.slice ao bs.length cap)/\iL w' w.heap.size 5 ao (bs.map bv)/\bs.length<=cap/\cap<=maxLen/\(ao=none->cap=0)/\(∀x∈ag ao,w.heap.size<=x/\x<w'.heap.size)/\Fr [] w w'
theorem zb2 (ao:OA) (cap:Nat) (bs:LB) (w:World) (hcs:Cs w ao (bs.map bv)) (hle:bs.length<=cap) (bU:ao=none->cap=0) (tJ:bs.length<=140737488355328) :
  Calls Tryz.prog 109 #[.slice ao bs.length cap] w (r9 w bs):=by
 have qT:∀(w:World) (a:OA) (n c n' c':Nat),(binOp .eql 35 (.slice a n c) (.slice none n' c')).run Tryz.prog w = .ok (.bool a.isNone) w:=λw a n c n' c'=>Lib.run_eql_slice_nil w _ _ a n c n' c' Tryz.underlying35
 cases ao with
 | none=>
  have h0:=bU rfl;obtain rfl:bs=[]:=sr (by omega);go_enter Tryz.func109,Tryz.ntmps109;go_wp2;go_ret;exact⟨none,0,rfl,.inl rfl,by simp,by decide,λ_=>rfl,by simp[ag],Fr.refl _ _⟩
 | some a=>
  go_enter Tryz.func109,Tryz.ntmps109;go_wp2_with (refine fq aEs rfl _ _ rfl (.slice (some ⟨w.heap.size,0,none⟩) 0 0) 0 [] [w.heap.size] rfl rfl ⟨rfl,.inr ⟨w.heap.size,0,#[],rfl,eE _,aV _ _,ax _,eE _,rfl,rfl⟩⟩ (some a) bs.length cap (bs.map bv) rfl hle bU (hcs.fr ((Fr.refl [] w).alloc _) (by simp)) (by simp) (qI bs) (by omega) (by unfold maxLen;omega) ?_;intro j9 gh w1 A1;simp only[iN,sS]at A1);go_ret;have ft:Fr [] w w1:=((Fr.refl [] w).alloc _).step A1.fr (by simp);have hb:∀x∈ag j9,w.heap.size<=x/\x<w1.heap.size:=λx hx=>⟨by have:=A1.at_ x hx;simp at this;omega,A1.lt x hx⟩
  exact⟨j9,gh,rfl,P9 A1.own λx hx=>(hb x hx).1,A1.le,A1.max,A1.nil,hb,ft⟩
theorem YU (ao:OA) (len cap:Nat) (w:World) (hle:len<=cap) (dE:cap<=maxLen) :
  Calls Tryz.prog 79 #[.slice ao len cap] w λe w'=>e = .returned (.slice ao len len)/\w'=w:=by
 go_enter Tryz.func79,Tryz.ntmps79;go_wp2;all_goals go_ret
 all_goals exact⟨by first|rfl|simp,rfl⟩
theorem ZM {w:World} {base:Nat} {e:TypeId} {size n:Nat} {xs:LV} {ao:OA} {len cap:Nat} (h:w.ownsRow base e size (.slice ao len cap) n xs):Cs w ao xs:=by
 rcases h.2 with⟨h1,h2⟩|⟨g,aM,cur,h1,hb,hg,hn,hm,hs,ht⟩
 ·left;have:=h.1;rw[h2]at this;exact sr (by simpa using this)
 ·simp only[kJ]at h1;obtain⟨rfl,rfl,rfl⟩:=h1;refine .inr ⟨g,0,rfl,λj v hv=>?_⟩;have h3:j<len*size:=by have:=(nF.1 hv).1;rw[h.1]at this;exact this
  rw[iN];exact (h.cellAt j h3).trans hv
end lib
namespace pkt
open Go Go.RowKit lib
variable {w wr:World} {a:OA} {cap:Nat}
structure Lv where
 kind:Int
 ao:Option Addr
 cap:Nat
 bs:List UInt8
def Lv.ln (x:Lv):Ln:=(x.kind,x.bs)
def bK:List Lv->List Value
 | []=>[]
 | x::r=>.int .i64 x.kind::.slice x.ao x.bs.length x.cap::bK r
theorem qi7:∀a b:List Lv,bK (a++b)=bK a++bK b
 | [],b=>rfl
 | x::a,b=>by simp only[uo,bK,qi7 a b]
theorem Un:∀a:List Lv,(bK a).length=a.length*2
 | []=>rfl
 | x::a=>by simp only[bK,dw,Un a];omega
theorem S8:∀(l:List Lv) (i:Nat) (h:i<l.length),(bK l)[i*2]?=some (.int .i64 l[i].kind)/\(bK l)[i*2+1]?=some (.slice l[i].ao l[i].bs.length l[i].cap)
 | x::l,0,h=>⟨rfl,rfl⟩
 | x::l,i+1,h=>by
  have h':i<l.length:=by simpa using h
  have h1:=S8 l i h';rw[show (i+1)*2=i*2+1+1 from by omega];exact h1
structure Lv.Ok (w:World) (x:Lv):Prop where
 cs:Cs w x.ao (x.bs.map bv)
 le:x.bs.length<=x.cap
 nil:x.ao=none->x.cap=0
 max:x.cap<=maxLen
theorem Lv.Ok.fr {w w':World} {x:Lv} (h:x.Ok w) (f:Fr [] w w'):x.Ok w':=⟨h.cs.fr f (by simp),h.le,h.nil,h.max⟩
structure jU (w:World) (a:OA) (cap:Nat) (ls:List Lv):Prop where
 cs:Cs w a (bK ls)
 le:ls.length<=cap
 nil:a=none->cap=0
 max:cap<=maxLen
 ok:∀x∈ls,x.Ok w
theorem jU.fr {w w':World} {a:OA} {cap:Nat} {ls:List Lv} (h:jU w a cap ls) (f:Fr [] w w'):jU w' a cap ls:=⟨h.cs.fr f (by simp),h.le,h.nil,h.max,λx hx=>(h.ok x hx).fr f⟩
structure jI (w wr:World) (a:OA) (cap:Nat) (ls:List Lv):Prop where
 own:wr.ownsRow 0 46 2 (.slice a ls.length cap) ls.length (bK ls)
 fr:Fr [] w wr
 new:∀x∈ag a,w.heap.size<=x
 ok:∀x∈ls,x.Ok wr
 far:∀x∈ls,∀y∈ag x.ao,y∉ag a
 lt:∀x∈ls,∀y∈ag x.ao,y<wr.heap.size
theorem jI.shape {ls:List Lv} (h:jI w wr a cap ls):ls.length<=cap/\cap<=maxLen/\(a=none->cap=0):=by
 rcases h.own.2 with⟨h1,h2⟩|⟨g,aM,cur,h1,hb,hg,hn,hm,hs,ht⟩
 ·simp only[kJ]at h1;obtain⟨rfl,h3,rfl⟩:=h1;exact⟨by omega,eE _,λ_=>rfl⟩
 ·simp only[kJ]at h1;obtain⟨rfl,_,rfl⟩:=h1;exact⟨hn,hm,λh=>by cases h⟩
theorem jI.lines {ls:List Lv} (h:jI w wr a cap ls):jU wr a ls.length ls:=by obtain⟨h1,h2,h3⟩:=h.shape;exact⟨ZM h.own,ax _,λhn=>by have:=h3 hn;omega,by omega,h.ok⟩
theorem BG (w:World):jI w w none 0 []:=⟨oE _ _ _ _,Fr.refl _ _,by simp[ag],by simp,by simp,by simp⟩
theorem jI.cG {wz:World} {ls:List Lv} (h:jI w wr a cap ls) (f:Fr [] wr wz):jI w wz a cap ls:=⟨dp h.own f (by simp),h.fr.trans f,h.new,λx hx=>(h.ok x hx).fr f,h.far,λx hx y hy=>fM (h.lt x hx y hy) f.size⟩
theorem jI.more {w1 w2:World} {a':OA} {aM:Nat} {ls:List Lv} {x:Lv} (h:jI w w1 a cap ls) (A:aN w1 w2 46 2 (ag a) a' (ls.length+1) aM (bK ls++bK [x])) (hx:x.Ok w1)
  (hf:∀y∈ag x.ao,y∉ag a) (hl:∀y∈ag x.ao,y<w1.heap.size):jI w w2 a' aM (ls++[x]):=by
 have dL:∀z:Lv,z.Ok w1->(∀y∈ag z.ao,y∉ag a)->z.Ok w2:=λz hz hzf=>⟨hz.cs.fr A.fr (λy hy=>hzf y hy),hz.le,hz.nil,hz.max⟩
 have dc:∀y∈ag a',y∈ag a\/y=w1.heap.size:=A.at_;refine⟨by rw[aG,qi7];exact A.own,h.fr.step A.fr λy hy=>.inr (h.new y hy),λy hy=>?_,λz hz=>?_,λz hz y hy LG=>?_,λz hz y hy=>?_⟩
 ·rcases dc y hy with h1|h1
  ·exact h.new y h1
  ·have:=h.fr.size;omega
 ·rcases jo.1 hz with hz|hz
  ·exact dL z (h.ok z hz) (h.far z hz)
  ·obtain rfl:=eF.1 hz;exact dL z hx hf
 ·rcases jo.1 hz with hz|hz
  ·rcases dc y LG with h1|h1
   ·exact h.far z hz y hy h1
   ·have:=h.lt z hz y hy;omega
  ·obtain rfl:=eF.1 hz;rcases dc y LG with h1|h1
   ·exact hf y hy h1
   ·have:=hl y hy;omega
 ·refine fM ?_ A.fr.size;rcases jo.1 hz with hz|hz
  ·exact h.lt z hz y hy
  ·obtain rfl:=eF.1 hz;exact hl y hy
theorem fL:aw Tryz.prog 41 46 (.agg #[.int .i64 0,.slice none 0 0]) 2 32:=aw.of Tryz.underlying41 (by kernel_rfl) (by kernel_rfl) (by decide)
theorem qoc:∀(a:List Lv),∀u∈bK a,u.oneCell'=true
 | [],u,h=>by cases h
 | x::a,u,h=>by
  simp only[bK,eX]at h;rcases h with rfl|rfl|h
  ·rfl
  ·rfl
  ·exact qoc a u h
theorem qoq (ao:OA) (len cap:Nat) (w:World) (hle:len<=cap) (dE:cap<=maxLen) :
  Calls Tryz.prog 37 #[.slice ao len cap] w λe w'=>e = .returned (.slice ao len len)/\w'=w:=by
 go_enter Tryz.func37,Tryz.ntmps37;go_wp2;all_goals go_ret
 all_goals exact⟨by first|rfl|simp,rfl⟩
end pkt

end Go.Proofs.YticadfhpolhkeaaGreatDoor