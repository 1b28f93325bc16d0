/-
  Texts of this proof, one behind the other: OPlain2, OWhole, RWords, RSha.
-/
import Derived.Test.YtkmpfgpfbmeihaaGreatDoorQ25
set_option maxHeartbeats 16000000
set_option maxRecDepth 100000
set_option linter.unusedVariables false
set_option linter.unusedSimpArgs false
namespace Go.Proofs.YtkmpfgpfbmeihaaGreatDoor
namespace os
open Go lib pk
theorem zil {os:List pk.Obj} {bq bY:LN} {n:Nat} {E:LB} {dp:Nat} (h:EF os bq bY n E dp) (jb:ub os) (hn:n<=1073741824):∃o,os[bq.length]?=some o/\E.length<=6*o.body.length+130:=by
 obtain⟨o,ho,hE⟩:=h;have Pc:=jb o (gB ho);refine⟨o,ho,?_⟩;rcases hE with⟨r,hr,rfl,_⟩|⟨j,b,a,p,d,r,_,_,_,_,_,_,_,_,hU,hr,rfl⟩
 ·have h1:(hd o.kind.toNat o.body.length).length<=5:=RH (by omega);have h2:=hr.1;unfold defl.aE;simp only[aA,bU,kg,sums.wJ];omega
 ·have h1:(hd 6 d.length).length<=5:=RH (by omega);have h2:=hr.1;have h3:(bk (n-a)).length<=5:=zff (by omega);unfold defl.aE;simp only[aA,bU,kg,sums.wJ,um];omega
theorem zhx {os:List pk.Obj} {o0 out:LB} {bq bY:LN} (jb:ub os) (h:Pk os o0 out bq bY) (Ev:o0.length+(os.map λo=>6*o.body.length+130).sum<=1000000) :
  bq.length<=os.length/\out.length<=o0.length+((os.take bq.length).map λo=>6*o.body.length+130).sum:=by
 induction h with
 | nil=>exact⟨ep _,by simp⟩
 | @step out bq bY E dp hp hE ih=>
  obtain⟨i1,i2⟩:=ih;have h3:((os.take bq.length).map λo=>6*o.body.length+130).sum<=(os.map λo=>6*o.body.length+130).sum:=by rw[<-Df bq.length os,gF,List.sum_append_nat];rw[Df];omega
  obtain⟨o,ho,hl⟩:=zil hE jb (by omega);have bg:=(jq.1 ho).1;refine⟨by rw[aA,yd];omega,?_⟩;rw[aA,aA,yd,zj,ho];simp only[Option.toList_some,gF,gX,qq,List.sum_append_nat,Be,List.sum_nil];omega
theorem zhw {os:List pk.Obj} {o0 out:LB} {bq bY:LN} (h:Pk os o0 out bq bY):∃rest,out=o0++rest:=by
 induction h with
 | nil=>exact⟨[],by simp⟩
 | @step out bq bY E dp hp hE ih=>obtain⟨rest,e⟩:=ih;exact⟨rest++E,by rw[e,eE]⟩
def lW (n:Nat):List UInt8:=[80,65,67,75,0,0,0,2,0,0,0,UInt8.ofNat n]
theorem zcw {os:List pk.Obj} {out:LB} {bq bY:LN} (jb:ub os) (h:Pk os (lW os.length) out bq bY) (hn:bq.length=os.length) (tU:os.length<256) (hlen:out.length<=1000000) :
  ∃l:List ek,pread (out++sha.dX out) = .ok (l,gH (sha.dX out))/\l.length=os.length/\bq.Pairwise (· < ·)/\∀i x,l[i]?=some x->nK os bq bY i x:=by
 obtain⟨i1,i2,i3,i4,i5⟩:=qyu jb h rfl (by omega);obtain⟨rest,hr⟩:=zhw h;have hs:=sha.rN out;obtain⟨S,hS⟩:=ai (sha.dX out);rw[<-hS]at hs ⊢;obtain⟨l,l1,l2,l3⟩:=i5 S;have EJ:=l3 0;rw[ie,jx]at EJ;have eH:(out++S).length=out.length+20:=by rw[aA,hs]
 have h8:(out++S).take 8=fJ:=by rw[hr,eE];rfl
 have h4:((out++S).drop 8).take 4=[0,0,0,UInt8.ofNat os.length]:=by rw[hr,eE];rfl
 have hg:crc.jH [0,0,0,UInt8.ofNat os.length]=os.length:=by unfold crc.jH;simp only[DW,List.foldl_nil];rw[x7 tU];simp
 refine⟨l,?_,by omega,i4,l2⟩;unfold pread;rw[if_neg (by rw[eH];omega),if_neg (by rw[h8,mL (by rw[eH];show 8<=_;omega)];simp),if_neg (by rw[eH];omega),h4,hg,if_neg (by omega)];rw[<-hn,EJ];simp only;rw[if_neg (by rw[eH];omega),KE,List.take_left,<-hS,mL (by omega),if_neg (by simp),if_neg (by rw[eH];omega)]
def made (os:List pk.Obj) (l:List ek) (i:Nat):pk.Obj:=match l[i]?,os[i]? with
 | some x,some o=>whole x o.kind o.body
 | _,_=>⟨0,[],[],0,0⟩
theorem Lg {os:List pk.Obj} {l:List ek} {i:Nat} {x:ek} {o:pk.Obj} (hx:l[i]?=some x) (ho:os[i]?=some o):made os l i=whole x o.kind o.body:=by simp[made,hx,ho]
theorem zi9 {os:List pk.Obj} {bq bY:LN} {l:List ek} (xC:bq.Pairwise (· < ·)) (hl:∀i x,l[i]?=some x->nK os bq bY i x) (hlen:l.length=bq.length) {i j off:Nat} (hj:j<i) (ho:bq[j]?=some off):pB l i off=some j:=by
 have bR:∀(k:Nat) (y:ek),l[k]?=some y->bq[k]?=some y.at_:=λk y hy=>by obtain⟨_,_,_,_,h,_⟩:=hl k y hy;exact h
 have kz:=(jq.1 ho).1;unfold pB;cases hf:(List.range i).find? (λk=>match l[k]? with
  | some y=>y.at_==off
  | none=>false) with
 | none=>
  have h1:=KZ.1 hf j (td.2 hj);obtain⟨y,hy⟩:∃y,l[j]?=some y:=⟨_,br (show j<l.length by omega)⟩;rw[hy]at h1;have h2:=bR j y hy;rw[ho]at h2;simp only[eJ]at h2;simp[h2]at h1
 | some k=>
  have h1:=List.find?_some hf;have h2:=td.1 (List.mem_of_find?_eq_some hf);cases hy:l[k]? with
  | none=>rw[hy]at h1;simp at h1
  | some y=>
   rw[hy]at h1;simp only[beq_iff_eq]at h1;have h3:=bR k y hy;rw[h1]at h3;have oO:=(jq.1 h3).1;have e1:=(jq.1 h3).2;have e2:=(jq.1 ho).2;have hp:=Ec.1 xC;rcases Nat.lt_trichotomy k j with h4|h4|h4
   ·have:=hp k j oO kz h4;omega
   ·rw[h4]
   ·have:=hp j k kz oO h4;omega
theorem Vw {os:List pk.Obj} {bq bY:LN} {l:List ek} (jb:ub os) (xC:bq.Pairwise (· < ·)) (hl:∀i x,l[i]?=some x->nK os bq bY i x) (hlen:l.length=bq.length) (yF:bY.length=bq.length) :
  ∀(n i:Nat) (W:List St) (more:Bool),i+n=l.length->W.length=l.length->(∀t dp,t<i->bY[t]?=some dp->W[t]?=some (some (.ok (made os l t,dp))))->(∀t x,i<=t->l[t]?=some x->W[t]?=some (eD l t x))->
  ∃W' b,pass l n i W more=(W',b)/\W'.length=l.length/\∀t dp,t<l.length->bY[t]?=some dp->W'[t]?=some (some (.ok (made os l t,dp)))
 | 0,i,W,more,hi,hW,hb,_=>⟨W,more,rfl,hW,λt dp ht hd=>hb t dp (by omega) hd⟩
 | n+1,i,W,more,hi,hW,hb,ha=>by
  obtain⟨x,hx⟩:∃x,l[i]?=some x:=⟨_,br (show i<l.length by omega)⟩;have Uf:=ha i x (ay _) hx;obtain⟨o,dp,ho,hd,hax,sL⟩:=hl i x hx;have Pc:=jb o (gB ho);have nu:=Ws l n i W more x hx _ Uf;rcases sL with⟨hk,Zh,rfl⟩|⟨hk,j,b,p,hj,JL,ux,AH,sC,zy,rfl,hm⟩
  ·have h6:x.kind≠6:=by omega
   have h7:x.kind≠7:=by omega
   have hf:eD l i x=some (.ok (made os l i,0)):=by unfold eD;rw[if_neg h6,if_neg h7,Lg hx ho,hk,Zh,FO (by omega)]
   rw[hf]at nu Uf;rw[if_neg (by simp)]at nu;rw[nu];refine Vw jb xC hl hlen yF n (i+1) W more (by omega) hW (λt dp ht tK=>?_) (λt y ht hy=>ha t y (by omega) hy);rcases kI t i with h1|h1
   ·exact hb t dp h1 tK
   ·have e:t=i:=by omega
    rw[e]at tK ⊢;rw[hd]at tK;simp only[eJ]at tK;rw[<-tK,Uf]
  ·have hao:=zi9 xC hl hlen hj AH;have hf:eD l i x=none:=by unfold eD;rw[if_pos hk,hao]
   rw[hf]at nu Uf;rw[if_pos rfl]at nu;have hWj:=hb j p hj sC;obtain⟨y,hy⟩:∃y,l[j]?=some y:=⟨_,br (show j<l.length by omega)⟩;have xg:over x (made os l j).kind (made os l j).body p = .ok (made os l i,p+1):=by
    have hbo:=jb b (gB JL);obtain⟨ins,fZ,hru,_,_⟩:=hm;have bN:delta.apply b.body x.data 65536=(o.body,0):=by rw[fZ];exact delta.qxg b.body ins o.body (by omega) (by omega) hru 65536 (by omega)
    rw[Lg hy JL,Lg hx ho];unfold over whole;simp only;rw[if_neg (by omega),bN];simp only[if_true,ux]
   have ht:sW l W i x=some (.ok (made os l i,p+1)):=by unfold sW;rw[if_pos hk,hao];show zm x (W[j]?.getD none)=_;rw[hWj];show some (over x (made os l j).kind (made os l j).body p)=_;rw[xg]
   rw[ht]at nu;rw[nu];refine Vw jb xC hl hlen yF n (i+1) _ true (by omega) (by rw[KN];exact hW) (λt dp LW tK=>?_) (λt z LW hz=>by rw[List.getElem?_set_ne (by omega)];exact ha t z (by omega) hz);rcases kI t i with h1|h1
   ·rw[List.getElem?_set_ne (by omega)];exact hb t dp h1 tK
   ·have e:t=i:=by omega
    rw[e]at tK ⊢;rw[hd]at tK;simp only[eJ]at tK;rw[<-tK,List.getElem?_set_self (by omega)]
theorem qu4 {l:List ek}:∀(n i:Nat) (W:List St) (more:Bool),(∀t:Nat,t<l.length->∃s,W[t]?=some (some s))->i+n=l.length->pass l n i W more=(W,more)
 | 0,i,W,more,_,_=>rfl
 | n+1,i,W,more,h,hi=>by obtain⟨s,hs⟩:=h i (by omega);obtain⟨x,hx⟩:∃x,l[i]?=some x:=⟨_,br (show i<l.length by omega)⟩;rw[Ws l n i W more x hx _ hs,if_neg (by simp)];exact qu4 n (i+1) W more h (by omega)
theorem Vk {l:List ek} {kn:List Kn}:∀(n i:Nat) (W:List St),(∀t:Nat,t<l.length->∃s,W[t]?=some (some s))->i+n=l.length->pk.ask l kn n i W=none
 | 0,i,W,_,_=>rfl
 | n+1,i,W,h,hi=>by obtain⟨s,hs⟩:=h i (by omega);obtain⟨x,hx⟩:∃x,l[i]?=some x:=⟨_,br (show i<l.length by omega)⟩;rw[pk.ask,hx,hs];exact Vk n (i+1) W h (by omega)
theorem qr2:∀(W:List St) (f:Nat->pk.Obj),(∀t,t<W.length->∃d,W[t]?=some (some (.ok (f t,d))))->gI W = .ok ((List.range W.length).map f)
 | [],f,_=>rfl
 | s::t,f,h=>by obtain⟨d,h0⟩:=h 0 (by simp);simp only[aT,eJ]at h0;subst h0;have ih:=qr2 t (λi=>f (i+1)) (λi hi=>by simpa using h (i+1) (by simpa using hi));rw[gI,ih,bU,List.range_succ_eq_map,gX,vW];rfl
theorem qwm {os:List pk.Obj} {bq bY:LN} {l:List ek} (jb:ub os) (xC:bq.Pairwise (· < ·)) (hl:∀i x,l[i]?=some x->nK os bq bY i x) (hlen:l.length=bq.length) (yF:bY.length=bq.length) :
  pk.resolve l [] = .ok ((List.range l.length).map (made os l)):=by
 obtain⟨W',b,hp,hW,aD⟩:=Vw jb xC hl hlen yF l.length 0 (gK l) false (by omega) (S3 l) (λt dp ht _=>absurd ht (by omega)) (λt x _ hx=>W7 l t x hx);have lR:∀t:Nat,t<l.length->∃d,W'[t]?=some (some (.ok (made os l t,d))):=λt ht=>⟨_,aD t _ ht (br (show t<bY.length by omega))⟩
 have dE:∀t:Nat,t<l.length->∃s,W'[t]?=some (some s):=λt ht=>by obtain⟨d,h⟩:=lR t ht;exact⟨_,h⟩
 have dh:rM l [] (l.length+1) (gK l)=W':=by
  have JQ:∀f,rM l [] f W'=W':=λf=>by
   cases f with
   | zero=>rfl
   | succ f=>rw[rM,qu4 l.length 0 W' false dE (by omega)];simp only[Di,if_false];rw[Vk l.length 0 W' dE (by omega)]
  rw[rM,hp];simp only;cases b with
  | true=>simp only[if_true];exact JQ _
  | false=>simp only[Di,if_false];rw[Vk l.length 0 W' dE (by omega)]
 unfold pk.resolve;rw[dh,qr2 W' (made os l) (λt ht=>lR t (by omega)),hW]
open Go.RowKit bm huf
set_option maxRecDepth 100000
theorem VJ {α:Type} (f:α->Nat):∀(r l:List α),(r.Pairwise λa b=>a≠b)->(∀x∈r,x∈l)->(r.map f).sum<=(l.map f).sum
 | [],l,_,_=>by simp
 | x::t,l,hp,hs=>by
  rw[tq]at hp;obtain⟨a,b,rfl⟩:=List.append_of_mem (hs x (by simp));have h1:=VJ f t (a++b) hp.2 (λy hy=>by
   have h2:=hs y (tu _ hy)
   rcases jw.1 h2 with h3|h3
   ·exact F9 _ h3
   ·rcases fP.1 h3 with h4|h4
    ·exact absurd h4.symm (hp.1 y hy)
    ·exact Lo _ h4)
  simp only[gX,gF,Be,List.sum_append_nat]at h1 ⊢;omega
def sV (w:World) (l:List pk.Obj) (e:Ending) (w':World):Prop:=
 ∃os out bq bY,Ordered l os/\os.length<=l.length/\(∀o∈os,xO o)/\ub os/\Pk os (lW os.length) out bq bY/\bq.length=os.length/\out.length<=1000000/\aB w (out++sha.dX out) e w'/\∃a n c vs,e = .returned (.slice a n n)/\w'.ownsRow 0 5 1 (.slice a n c) n vs
theorem zc2 {o:pk.Obj} (h:xO o):1<=o.kind.toNat/\o.kind.toNat<=4/\o.body.length<=65536:=by
 have h1:=h.1;unfold obj.fg at h1;refine⟨?_,?_,h.2.1⟩<;>
 ·by_cases a1:o.kind=1
  ·rw[a1];decide
  ·by_cases a2:o.kind=2
   ·rw[a2];decide
   ·by_cases a3:o.kind=3
    ·rw[a3];decide
    ·by_cases a4:o.kind=4
     ·rw[a4];decide
     ·rw[if_neg a1,if_neg a2,if_neg a3,if_neg a4]at h1;exact absurd rfl h1
def Fh (w:World) (l1:List pk.Obj) (e:Ending) (w':World):Prop:=∃a1 c1 tB,e = .returned (.slice a1 tB.length c1)/\gU w' a1 c1 tB/\Fr [] w w'/\tB.map (·.1)=l1
theorem qxv (N:Nat) (hN:N<=200) (oH:xN N) (la:OA) (lc n:Nat) (l1:List pk.Obj) (mm:Int) (w:World) (hr:Calls Tryz.prog 31 #[.slice la n lc] w (Fh w l1)) (hH:l1.length<=200) (hdd:∀r:List pk.Obj,(r.Pairwise λa b=>a≠b)->(∀o∈r,o∈l1)->r.length<=N/\(r.map λo=>6*o.body.length+130).sum<=900000) (jb:∀o∈l1,xO o)
  (hm:w.cell? ⟨0,0,none⟩=some (.int .i64 mm)) :
  Calls Tryz.prog 15 #[.slice la n lc,.slice none 0 0] w (sV w l1):=by
 have lF:=λw'=>run_makeMap (P:=Tryz.prog) 75 w'
 have hcv:∀w':World,(convert 23 23 (.slice (some ⟨w'.heap.size,0,none⟩) 8 8)).run Tryz.prog (w'.alloc (.cells #[.int .u8 80,.int .u8 65,.int .u8 67,.int .u8 75,.int .u8 0,.int .u8 0,.int .u8 0,.int .u8 2] 5)) = .ok (.slice (some ⟨w'.heap.size,0,none⟩) 8 8) (w'.alloc (.cells #[.int .u8 80,.int .u8 65,.int .u8 67,.int .u8 75,.int .u8 0,.int .u8 0,.int .u8 0,.int .u8 2] 5 (8,9))):=λw'=>Lib.run_convert_bytes_const (P:=Tryz.prog) w' 23 5 #[.int .u8 80,.int .u8 65,.int .u8 67,.int .u8 75,.int .u8 0,.int .u8 0,.int .u8 0,.int .u8 2] 8 8 Tryz.underlying23 Tryz.underlying5
 have Pa:=λa1 c1 tB w1 (hO:gU w1 a1 c1 tB) (he:tB.map (·.1)=l1)=>ND N (by omega) oH a1 c1 tB w1 hO (by rw[<-bW (f:=(·.1)),he];omega) (by rw[he];exact λr hr=>(hdd r (hr.ne.imp λ{x y} h e=>h (by rw[e])) hr.sub).1) (λm jB=>(jb m.1 (by rw[<-he];exact uL jB)).2.1) (λm jB=>by
  have h1:=(jb m.1 (by rw[<-he];exact uL jB)).2.2
  rw[<-h1]
  unfold mg
  rw[eC,sha.rN])
 have H:=cJ hr hH jb hdd hm Pa;clear hr hH jb hm Pa hdd;go_enter Tryz.func15,Tryz.ntmps15;go_upto_region 2 with (first
  | (go_at_call 31;refine H.o0.mono ?_;rintro e w1 ⟨a1,c1,tB,rfl,hO1,f1,he1⟩;have H1:=aw hO1 f1 he1;clear hO1 f1 he1)
  | (go_at_call 17;refine (H.l5 a1 c1 tB _ H1.o0 H1.l2).mono ?_;rintro e w2 ⟨a2,bB,rfl,O2,n2,m2,f2,XJ,XH⟩;have H2:=cJ O2 n2 m2 f2 XJ XH;clear O2 n2 m2 f2 XJ XH))
 obtain⟨n2,jM⟩:=ai bB.length;rw[<-jM];obtain⟨P,w3,hP,jR,f23,q3⟩:∃P w3,P=w2.heap.size/\w3=w2.alloc (.cells #[.slice none 0 0,.slice a2 n2 n2,.slice none 0 0,.slice none 0 0] 74)/\Fr [] w2 w3/\w3.heap[P]?=some (.cells #[.slice none 0 0,.slice a2 n2 n2,.slice none 0 0,.slice none 0 0] 74 (0,0)):=⟨_,_,rfl,rfl,(Fr.refl [] w2).alloc _,bC w2 _⟩;have AJ:=H1.o1.trans H2.out.2.2.2.1;have ZI:w.heap.size<=P:=by rw[hP];exact AJ.size
 have zP:P<w3.heap.size:=lt_of_block q3;have zbS:n2<=200:=by have h1:=H2.out.2.2.2.2.2;have h2:=H.o1;have h3:=congrArg List.length H1.l2;rw[bW]at h3;omega
 rw[<-jR,<-hP];have l0:=cell_of q3 1;have p0:=cell_of q3 0;simp only[bF,aT,bP]at l0 p0;have H3:=cJ f23 AJ q3 ZI jM hP;clear jR hP f23 AJ q3 jM;have fM:(n2:Int)/16777216=0:=by omega
 have kT:(n2:Int)/65536=0:=by omega
 have ju:(n2:Int)/256=0:=by omega
 go_upto_region 3 with fail;clear l0 p0;have c8:Cs ((w3.alloc (.cells #[.int .u8 80,.int .u8 65,.int .u8 67,.int .u8 75,.int .u8 0,.int .u8 0,.int .u8 0,.int .u8 2] 5 (8,9))).alloc (.cells #[.int .u8 0,.int .u8 0,.int .u8 0,.int .u8 n2] 5)) (some ⟨w3.heap.size,0,none⟩) [.int .u8 80,.int .u8 65,.int .u8 67,.int .u8 75,.int .u8 0,.int .u8 0,.int .u8 0,.int .u8 2]:=by have:=qm (.cells #[.int .u8 0,.int .u8 0,.int .u8 0,.int .u8 n2] 5) (bC w3 (.cells #[.int .u8 80,.int .u8 65,.int .u8 67,.int .u8 75,.int .u8 0,.int .u8 0,.int .u8 0,.int .u8 2] 5 (8,9)));exact .inr ⟨w3.heap.size,0,rfl,λj u hj=>by rw[cell_of this];simpa using hj⟩
 have c4:Cs ((w3.alloc (.cells #[.int .u8 80,.int .u8 65,.int .u8 67,.int .u8 75,.int .u8 0,.int .u8 0,.int .u8 0,.int .u8 2] 5 (8,9))).alloc (.cells #[.int .u8 0,.int .u8 0,.int .u8 0,.int .u8 n2] 5)) (some ⟨w3.heap.size+1,0,none⟩) [.int .u8 0,.int .u8 0,.int .u8 0,.int .u8 n2]:=by have:=bC (w3.alloc (.cells #[.int .u8 80,.int .u8 65,.int .u8 67,.int .u8 75,.int .u8 0,.int .u8 0,.int .u8 0,.int .u8 2] 5 (8,9))) (.cells #[.int .u8 0,.int .u8 0,.int .u8 0,.int .u8 n2] 5);rw[fD]at this;exact .inr ⟨w3.heap.size+1,0,rfl,λj u hj=>by rw[cell_of this];simpa using hj⟩
 have fa:=((Fr.refl [] w3).alloc (.cells #[.int .u8 80,.int .u8 65,.int .u8 67,.int .u8 75,.int .u8 0,.int .u8 0,.int .u8 0,.int .u8 2] 5 (8,9))).alloc (.cells #[.int .u8 0,.int .u8 0,.int .u8 0,.int .u8 n2] 5);have HO:=aG c8 c4 (fa.af H3.out.2.2.1 (by simp)) fa;clear c8 c4 fa;go_upto_region 4 with (at_builtin;refine XE aq rfl _ _ rfl (some ⟨w3.heap.size,0,none⟩) 8 8 [.int .u8 80,.int .u8 65,.int .u8 67,.int .u8 75,.int .u8 0,.int .u8 0,.int .u8 0,.int .u8 2] rfl HO.o0 rfl (by decide) (by simp) (some ⟨w3.heap.size+1,0,none⟩) 4 4 [.int .u8 0,.int .u8 0,.int .u8 0,.int .u8 n2] rfl HO.o1 rfl (by decide) (by decide) (by decide) ?_;intro c5 w4 A4;have q4:=A4.fr.af HO.o2 (by simp);have cc:=cell_of q4 0;have zz:=aW q4 0;simp only[bF,aT]at cc;have HA:=ak A4 q4;clear A4 q4);clear cc zz fM kT ju;obtain⟨G,hG⟩:=ai (w3.heap.size+1+1);obtain⟨w5,pg⟩:=ai (w4.setCell ⟨P,0,none⟩ (.slice (some ⟨w3.heap.size+1+1,0,none⟩) 12 c5));rw[<-pg,<-hG];have q5:w5.heap[P]?=some (.cells #[.slice (some ⟨G,0,none⟩) 12 c5,.slice a2 n2 n2,.slice none 0 0,.slice none 0 0] 74 (0,0)):=by rw[pg,hG];exact bI HA.l1 _
 have f45:Fr [P] w4 w5:=by rw[pg];exact (Fr.refl [P] w4).setCell (by simp) _
 have f5:Fr [P] w2 w5:=(((H3.out.1.trans HO.l3).trans HA.o0.fr).mono (by simp)).trans f45;have hGP:P<G:=by omega
 have uT:w5.ownsRow 0 5 1 (.slice (some ⟨G,0,none⟩) 12 c5) 12 ((lW n2).map bv):=by
  have h1:=HA.o0.own;rw[fD,fD,<-hG]at h1;have h2:(lW n2).map bv=[.int .u8 80,.int .u8 65,.int .u8 67,.int .u8 75,.int .u8 0,.int .u8 0,.int .u8 0,.int .u8 2]++[.int .u8 0,.int .u8 0,.int .u8 0,.int .u8 n2]:=by
   unfold lW;simp only[gX,qq,zi,qj];have h3:bv (UInt8.ofNat n2) = .int .u8 n2:=by unfold bv;rw[x7 (by omega)]
   rw[h3];rfl
  rw[h2];exact dr h1 f45 (λk hk=>by
   simp only[Value.ownBlock,eJ]at hk
   simp only[iH]
   omega)
 have hW5:WS w w5 P a2 n2 bB (lW n2) [] [] (some ⟨G,0,none⟩) c5 none 0 none 0:=by
  obtain⟨O2,nn2,m2,f2,XJ,XH⟩:=H2.out;obtain⟨h31,h32,h33,h34,h35,h36⟩:=H3.out;have Cm:∀y,y<w2.heap.size->y∉[P]:=λy hy=>by simp;omega
  refine⟨by rw[<-h35];exact q5,uT,wM _ _ _ _,wM _ _ _ _,λy hy=>?_,by simp[af],by simp[af],⟨O2.cs.fr f5 (λy hy=>Cm y (nn2 y hy).2),by rw[<-h35];exact ay _,by unfold maxLen;omega,λh=>by have:=O2.nil h;omega,λm jB=>(O2.rd m jB).gJ f5 (λy hy=>Cm y ((m2 m jB).2 y hy).2)⟩,λy hy=>?_,λm jB y hy=>?_,h32.step f5 (λy hy=>.inr (by simp at hy;omega)),h34⟩
  ·simp[af]at hy;rw[hy];exact⟨hGP,by simp[af],by simp[af]⟩
  ·have:=(nn2 y hy).2;omega
  ·have:=((m2 m jB).2 y hy).2;omega
 have H5:=ah hW5;have e1:w5.cell? ⟨P,1,none⟩=some (.slice a2 n2 n2):=by rw[cell_of q5];rfl
 clear q5 f45 f5 uT hGP hW5 pg hG HO HA hcv zP;go_upto_region 5 with fail;generalize pK:World.alloc _ _=w6;obtain⟨B,hB⟩:=ai w5.heap.size;obtain⟨C,hC⟩:=ai (B+1);rw[<-hB,<-hC];have s6:Seen w6 B 0 (.map []):=by have h1:=qra w5;rw[<-hB]at h1;rw[<-pK];exact FR h1 ((Fr.refl [] _).alloc _) (by simp)
 have ZU:w6.heap[C]?=some (.cells #[.map (some B)] 75 (0,0)):=by have h:=bC (w5.alloc (.map #[] 0)) (.cells #[.map (some w5.heap.size)] 75);rw[fD,<-hB,<-hC]at h;rw[<-pK,<-hB];exact h
 have f6:Fr [] w5 w6:=by rw[<-pK];exact ((Fr.refl [] w5).alloc _).alloc _
 have e1:=f6.cell e1 (by simp);have m6:=cell_of ZU 0;simp only[bF,aT]at m6;have hBC:C≠B:=by omega
 have H6:=aQ s6 ZU f6 hB hBC;clear s6 ZU f6 pK hB hC lF hBC;go_wp2;go_loopg [46] n2 (λk s46 wr=>∃(i n0:Nat) (D:DataW Unit),s46 = .int .i64 (i:Nat)/\i+k=n2/\n0<=i/\Seen wr B n0 D/\Fr [B] w6 wr);case atStart=>exact⟨0,0,.map [],rfl,by omega,ay _,H6.o0,Fr.refl _ _⟩
 case round=>
  obtain⟨i,n0,D,rfl,bX,pL,hS,PW⟩:=hrel;have Z7:Fr [] w5 wr:=H6.o2.step PW (λy hy=>.inr (by simp at hy;rw[hy,H6.o3];exact ay _));have Qk:=H5.out.dQ Z7;have m7:=PW.cell m6 (by simp;exact H6.l4);by_cases hi:i<n2
  ·obtain⟨k,rfl⟩:∃k,gk=k+1:=⟨gk-1,by omega⟩;obtain⟨m,zE⟩:∃m,bB[i]?=some m:=⟨bB[i]'(by rw[<-H3.out.2.2.2.2.1];exact hi),br _⟩;obtain⟨g,o,rfl,hc⟩:=Qk.hl.cell zE;have qN:m.1.id.length<=1000000:=by have h1:=H2.out.2.2.2.2.1.sub m.1 (uL (gB zE));rw[H1.l2]at h1;have h2:=(H.o2 m.1 h1).2.2;rw[<-h2];unfold mg;rw[eC,sha.rN];decide
   obtain⟨⟨kd,bs,id,at_,crc⟩,b2,bc⟩:=m;simp only at qN;have c0:=hc 0 (.int .i64 kd) rfl;have c1:=hc 1 (.slice b2 bs.length bc) rfl;have c2:=hc 2 (.string (str id)) rfl;have c3:=hc 3 (.int .i64 at_) rfl;have c4:=hc 4 (.int .u32 crc) rfl;simp only[ie]at c0;obtain⟨bl,bQ⟩:=ai bs.length;rw[<-bQ]at c1;have HL:=aQ bX pL hS PW qN;have zbU:n0<=200:=by omega
   clear bX pL hS PW qN bQ hc Z7 Qk zE;go_upto_region 8 with (guard_target =~ wpList _ _ _ (⟨_,Op.store _ _ _,_,_,_,_⟩::_) _ _;refine wpList_store_row rfl 34 (.tmp 9) (.tmp 49) rfl wr.heap.size #[.int .i64 kd,.slice b2 bl bc,.string (str id),.int .i64 at_,.int .u32 crc] rfl rfl 34 _ (bC _ _) nk rfl (by kernel_rfl) ?_);clear c0 c1 c2 c3 c4;simp only[Act.put];generalize Dn:World.setRow _ _ _=w7;obtain⟨Y,hY⟩:=ai wr.heap.size;rw[<-hY]at Dn ⊢;have hy7:w7.heap[Y]?=some (.cells #[.int .i64 kd,.slice b2 bl bc,.string (str id),.int .i64 at_,.int .u32 crc] 34 (0,0)):=by rw[<-Dn,hY];exact setRow_heap _ _ _ _ _ _ (bC _ _)
   have f7:Fr [] wr w7:=by rw[<-Dn,hY];exact ((Fr.refl [] wr).alloc _).setRow (.inr (ay _)) _
   have y2:=cell_of hy7 2;have m7:=f7.cell m7 (by simp);simp only[bF,aT,bP]at y2;have H7:=ak (FR HL.out.2.2.1 f7 (by simp)) f7;clear hy7 f7 Dn hY;go_wp2_with (at_mapUpdate;refine wpList_mapUpdate_own _ rfl _ _ _ 75 rfl 9 4 Dc V2 (plainElem Tryz.prog 4) B n0 D rfl H7.o0 (by unfold maxLen;omega) _ _ (.string id) rfl rfl (Vp id HL.out.2.2.2.2) (.lit (.bool true)) [] (plainElem_bool Tryz.underlying4 true) ?_;intro w8 Gv hg8;have H8:=ak Gv ((Fr.refl [B] w7).grown hg8 (λk e=>.inl (by simp only[eJ]at e;simp[e])));clear Gv hg8);go_roundg k;case measure=>have:=HL.out.1;omega
   case rel=>exact⟨i+1,n0+1,_,by go_num,by have:=HL.out.1;omega,by have:=HL.out.2.1;omega,H8.o0,(HL.out.2.2.2.1.trans (H7.l1.mono (by simp))).trans H8.l1⟩
  ·have g0:decide ((i:Int)<(n2:Int))=false:=by simp;omega
   have g1:decide (i<n2)=false:=by simpa using hi
   have e1:=cell_of Qk.hW 1;simp only[bF,aT,bP]at e1;rw[<-H3.out.2.2.2.2.1]at e1;have TD:ub (bB.map (·.1)):=λo ho=>by have h1:=H2.out.2.2.2.2.1.sub o ho;rw[H1.l2]at h1;exact zc2 (H.o2 o h1)
   have Gl:((bB.map (·.1)).map λo=>6*o.body.length+130).sum<=900000:=(H.o3 _ (H2.out.2.2.2.2.1.lt.imp λ{a b} h e=>by rw[e]at h;omega) (λo ho=>by
    have h1:=H2.out.2.2.2.2.1.sub o ho
    rwa [H1.l2]at h1)).2
   have xh:∀m∈bB,xO m.1:=λm jB=>by have h1:=H2.out.2.2.2.2.1.sub m.1 (uL jB);rw[H1.l2]at h1;exact H.o2 m.1 h1
   have HR:=aG Qk TD Gl xh;clear bX pL hS PW Z7 Qk m7 hi TD Gl xh m6;go_upto_region 11 with (first
    | (go_at_call 31;refine (WN _).mono ?_;rintro e w8 ⟨rfl,hw⟩;obtain rfl:=hw.symm)
    | (go_at_call 32;refine (WZ _ _).mono ?_;rintro e w9 ⟨rfl,hw⟩;obtain rfl:=hw.symm))
   clear g0 g1;obtain⟨wv,OG⟩:∃wv:World,wv=wr:=⟨_,rfl⟩;rw[<-OG]at HR e1 ⊢;clear OG;go_wp2;go_loopg [11,63] n2 (λk s11 s63 wq=>∃(i:Nat) (out:LB) (bq bY:LN) (ba:OA) (bc:Nat) (aa:OA) (ac:Nat) (da:OA) (dc:Nat),s63 = .int .i64 (i:Nat)/\i+k=n2/\bq.length=i/\Pk (bB.map (·.1)) (lW n2) out bq bY/\WS w wq P a2 n2 bB out bq bY ba bc aa ac da dc);case atStart=>exact⟨0,lW n2,[],[],_,_,_,_,_,_,rfl,by omega,rfl,.nil,HR.o0⟩
   case round=>
    obtain⟨i,out,bq,bY,ba,bc,aa,ac,da,dc,rfl,bX,nA,uq,py⟩:=hrel;have hlen:=zhx HR.o1 uq (by have:=HR.o2;show 12+_<=_;omega);have eH:out.length<=1000000:=by
     have h1:=hlen.2;have h2:(((bB.map (·.1)).take bq.length).map λo=>6*o.body.length+130).sum<=((bB.map (·.1)).map λo=>6*o.body.length+130).sum:=by
      conv=>rhs;rw[<-Df bq.length (bB.map (·.1))]
      rw[gF,List.sum_append_nat];omega
     have h3:=HR.o2;have h4:(lW n2).length=12:=rfl;omega
    obtain⟨r1,r2,r3⟩:=zgi uq rfl;have Pn:=H3.out.2.2.2.2.1;by_cases hi:i<n2
    ·obtain⟨k,rfl⟩:∃k,gk=k+1:=⟨gk-1,by omega⟩;have pb:=zfm w wr P a2 n2 bB out bq bY ba bc aa ac da dc mm py (by omega) r1.symm (by omega) (by omega) r3 HR.l3 (py.fr.cell H.o4 (by simp));rw[nA]at pb;have HL:=aG pb bX nA uq;clear pb bX nA uq py hlen eH r1 r2 r3 Pn;go_wp2_with (go_at_call 34;refine HL.out.1.mono ?_;intro e gh hW;have he:=hW.1;subst he;have kY:=ah hW.2;clear hW);go_roundg k;case measure=>have:=HL.out.2.1;omega
     case rel=>obtain⟨E,dp,UF,bc',aa',ac',da',dc',hE,_,Zz⟩:=kY.out;obtain⟨_,bX,nA,uq⟩:=HL.out;exact⟨i+1,out++E,bq++[out.length],bY++[dp],UF,bc',aa',ac',da',dc',by go_num,by omega,by simp[nA],uq.step hE,Zz⟩
    ·have g0:decide ((i:Int)<(n2:Int))=false:=by simp;omega
     have g1:decide (i<n2)=false:=by simpa using hi
     obtain⟨S,hS⟩:=ai (af ba);have G0:P∉S:=by rw[hS];exact λhy=>by have:=(py.nb P hy).1;omega
     have e0:=cell_of py.hW 0;simp only[bF,aT]at e0;have fd:=Fr.av [] wr;have qu:=dr py.ob fd (by simp);obtain⟨rD,_⟩:=wK qu;have q0:∀x',(sup S wr.drew x').cell? ⟨P,0,none⟩=some (.slice ba out.length bc):=λx'=>(dY S wr.drew x').cell (fd.cell e0 (by simp)) G0
     have mA:=sha.Sm ba bc out wr.drew rD (by omega);have Qh:∀y∈af ba,w.heap.size<=y:=λy hy=>by have h1:=(py.nb y hy).1;have h2:=py.w0;omega
     have cR:bq.length=(bB.map (·.1)).length:=by rw[bW];omega
     have pC:=dk py.fr Qh qu mA hS uq cR;clear bX nA uq py hlen r1 r2 r3 Pn hS G0 e0 fd qu rD mA Qh cR hi e1;go_upto_region 16 with fail;clear g0 g1;obtain⟨ol,iw⟩:=ai out.length;rw[<-iw]at eH;refine j4 11 [(false,0),(false,1),(false,2),(false,3),(false,4),(false,5),(false,6),(false,7),(true,8),(true,9),(true,10)] S (by kernel_rfl) (by kernel_rfl) (λ_ _ d _ _ h=>by cases d<;>exact h) ?_;simp only[jm];refine dT 8 rfl ?_;simp only[bD];repeat (go_big_quiet_step (fail))
     refine wpQuiet_nil ?_;clear q0;refine eT rfl ?_;intro X' eI;go_wp2_with (go_at_call 35;refine pC.o3.mono ?_;rintro e xV ⟨⟨a14,c14,rfl,KJ⟩,f14⟩);refine eI.out _ _ (f14.mono (by simp)) ?_;clear eI X';have HS:=ak KJ f14;clear KJ f14;have Gc:=dr pC.o2 HS.l1 (by simp);have Kf:=HS.o0.le;rw[sha.rN]at Kf;refine eT rfl ?_;intro X' eI;refine uj aq _ _ rfl (.slice ba out.length bc) out.length (out.map bv) S rfl (by rw[dD,pC.o4]) Gc a14 20 c14 ((sha.dX out).map bv) rfl Kf HS.o0.nil HS.o0.cs (by rw[bW,sha.rN]) (j3 _) (by omega) (by unfold maxLen;omega) ?_;intro nH pP nL kF;refine eI.out _ _ kF.fr ?_;clear eI X';refine eT rfl ?_;intro X' eI;go_wp2_with (go_at_call 29;refine (M3 nH (out.length+20) pP _ kF.le kF.max).mono ?_;rintro e ug ⟨rfl,hw⟩;obtain rfl:=hw.symm);refine eI.out _ _ (Fr.refl _ _) ?_;clear eI X';refine ic ?_;have wE:=ah kF;clear kF Gc Kf;go_wp2;go_ret;have N7:=wE.out.own;rw[<-gF]at N7;obtain⟨Vc,_⟩:=wK N7;have sG:(out++sha.dX out).length=out.length+20:=by rw[aA,sha.rN]
     have f17:Fr [] w xV:=pC.o0.trans ((Fr.av [] wr).trans HS.l1);have uq:=pC.o5;have cQ:(bB.map (·.1)).length=n2:=by rw[bW];exact H3.out.2.2.2.2.1.symm
     rw[<-cQ]at uq;refine⟨bB.map (·.1),out,bq,bY,by rw[<-H1.l2];exact H2.out.2.2.2.2.1,by rw[bW,<-H1.l2,bW];exact H2.out.2.2.2.2.2,λo ho=>?_,HR.o1,uq,pC.l6,by omega,⟨nH,?_,⟨?_,?_,?_,?_⟩,λy hy=>⟨?_,rr N7 (qi hy)⟩,f17.step wE.out.fr (λy hy=>.inr (by rw[pC.o4]at hy;exact pC.o1 y hy))⟩,nH,_,pP,_,rfl,N7⟩
     ·obtain⟨m,jB,e⟩:=jo.1 ho;rw[<-e];exact HR.l3 m jB
     ·rw[sG];rfl
     ·exact Vc.cs
     ·exact ay _
     ·rw[sG];unfold maxLen;omega
     ·intro e;have h1:=Vc.nil e;have h2:=Vc.le;rw[sG]at h2;omega
     ·rcases wE.out.at_ y hy with h|h
      ·rw[pC.o4]at h;exact pC.o1 y h
      ·rw[h];exact f17.size
end os
namespace sha
open Go Go.RowKit lib bm pk
def wv (v:Nat):Value:=.int .u32 v
def mI (vs:LN):List UInt8:=vs.flatMap sums.fX
theorem jI:∀vs:List Nat,(mI vs).length=4*vs.length
 | []=>rfl
 | v::t=>by have:mI (v::t)=sums.fX v++mI t:=rfl;rw[this,aA,sums.wJ,jI t,bU];omega
theorem zbg (vs:LN) (v:Nat):mI (vs++[v])=mI vs++sums.fX v:=by unfold mI;rw[Bm];simp
theorem qqv (ao:OA) (cap:Nat) (vs:LN) (w:World) (h:Cs w ao (vs.map wv)) (hv:∀v∈vs,v<4294967296) (hlen:vs.length<=5) (pM:vs.length<=cap) (nT:cap<=maxLen) :
  Calls Tryz.prog 82 #[.slice ao vs.length cap] w λe w'=>∃a c,e = .returned (.slice a (4*vs.length) c)/\lib.Rd w' a c (mI vs)/\(∀x∈af a,w.heap.size<=x/\x<w'.heap.size)/\Fr [] w w':=by
 obtain⟨L,hL⟩:=ai vs.length;unfold maxLen at nT;rw[<-hL]at hlen pM ⊢;have HI:=aw h hL hv;clear h hL hv;go_enter Tryz.func82,Tryz.ntmps82;go_wp2;go_loopg [3,4] L (λk s3 s4 wr=>∃i a c out,s4 = .int .i64 (i:Nat)/\s3 = .slice a out.length c/\i+k=L/\out=mI (vs.take i)/\Wr w wr a c out);case atStart=>exact⟨0,none,0,[],rfl,rfl,by omega,rfl,V3 w w (Fr.refl _ _)⟩
 case round=>
  obtain⟨i,a,c,out,rfl,rfl,bX,ho,hw⟩:=hrel;have H:=ak hw ho;have iw:out.length<=20:=by rw[ho,jI,dU];omega
  clear hw ho;by_cases hi:i<L
  ·obtain⟨k,rfl⟩:∃k,gk=k+1:=⟨gk-1,by omega⟩;have eO:i<vs.length:=by rw[<-HI.out.2.1];exact hi
   obtain⟨g,o,rfl,hc⟩:=HI.out.1.at (by rw[bW];omega);have rW:=hc i (wv vs[i]) (by rw[iM,br eO];rfl);have Y6:g<w.heap.size:=Lp w _ rW;have Dp:=HI.out.2.2 vs[i] (tk eO);have HT:=ah (show vs.take (i+1)=vs.take i++[vs[i]] from Ef eO);obtain⟨v,Ax⟩:=ai (vs[i]);rw[<-Ax]at rW Dp HT;have j8:=sums.Vm v Dp;have HB:=ah j8;unfold wv at rW;have Mi:=H.out.1.fr.cell rW (by simp);obtain⟨S,hS⟩:=ai (af a);have uu:g∉S:=λhm=>by rw[hS]at hm;have:=H.out.1.new g hm;omega
   have q0:∀x,(sup S wr.drew x).cell? ⟨g,o+i,none⟩=some (.int .u32 v):=λx=>(dY S wr.drew x).cell (show wr.drew.cell? _=_ from Mi) uu
   have HS:=ah hS;clear hc rW eO Ax j8 Mi hS Y6;go_upto_region 5 with fail;refine j4 26 [(false,0),(false,1),(false,2),(false,3),(false,4),(false,5),(false,6),(false,7),(false,8),(false,9),(false,10),(false,11),(false,12),(false,13),(false,14),(false,15),(false,16),(false,17),(false,18),(false,19),(false,20),(false,21),(false,22),(false,23),(true,24),(true,25)] S (by kernel_rfl) (by kernel_rfl) (λ_ _ d _ _ h=>by cases d<;>exact h) ?_;simp only[jm];refine dT 24 rfl ?_;simp only[bD];repeat (go_big_quiet_step (fail))
   refine wpQuiet_nil ?_;clear q0;refine eT rfl ?_;intro X hX;go_wp2;refine hX.out _ _ ((Fr.refl _ wr.drew).alloc _) ?_;clear hX X;have dQ:Fr [] wr (wr.drew.alloc (.cells #[.int .u8 ((v:Int)/16777216),.int .u8 ((v:Int)/65536%256),.int .u8 ((v:Int)/256%256),.int .u8 ((v:Int)%256)] 5)):=(Fr.av [] wr).alloc _;have cT:=dr H.out.1.own dQ (by simp);have cA:Cs (wr.drew.alloc (.cells #[.int .u8 ((v:Int)/16777216),.int .u8 ((v:Int)/65536%256),.int .u8 ((v:Int)/256%256),.int .u8 ((v:Int)%256)] 5)) (some ⟨wr.drew.heap.size,0,none⟩) ((sums.fX v).map bv):=by rw[HB.out];exact .inr ⟨wr.drew.heap.size,0,rfl,λj u hj=>by rw[cell_of (bC wr.drew _)];simpa using hj⟩
   refine eT rfl ?_;intro X hX;refine uj aq _ _ rfl (.slice a out.length c) out.length (out.map bv) S rfl (by rw[dD,HS.out]) cT (some ⟨wr.drew.heap.size,0,none⟩) 4 4 ((sums.fX v).map bv) rfl (by decide) (by simp) cA (by rfl) (j3 _) (by omega) (by unfold maxLen;omega) ?_;intro a2 c2 w2 A1;refine hX.out _ _ A1.fr ?_;clear hX X;refine ic ?_;have HA:=ak dQ A1;clear dQ A1 cT cA;go_wp2;go_roundg k;case measure=>omega
   case rel=>have A1:=HA.l1;rw[HS.out]at A1;exact⟨i+1,a2,c2,out++sums.fX v,by go_num,by rw[aA];rfl,by omega,by rw[HT.out,zbg,<-H.out.2],H.out.1.step2 HA.o0 A1⟩
  ·obtain rfl:i=L:=by omega
   have ho:out=mI vs:=by rw[H.out.2,HI.out.2.1,Ie]
   have hn:out.length=4*i:=by rw[ho,jI,<-HI.out.2.1]
   have HO:=ak ho hn;clear ho hn;go_wp2;go_ret;obtain⟨r1,_⟩:=wK H.out.1.own;exact⟨a,c,by rw[<-HO.l1];rfl,by rw[<-HO.o0];exact r1,λx hx=>⟨H.out.1.new x hx,rr H.out.1.own (qi hx)⟩,H.out.1.fr⟩
theorem DV (x:Int) (n:Nat) (w:World) (hn:n=1\/n=5\/n=30) :
  Calls Tryz.prog 83 #[.int .u32 x,.int .i64 n] w λe w'=>e = .returned (.int .u32 (Hp x n))/\Fr [] w w':=by
 rcases hn with rfl|rfl|rfl
 all_goals
  go_enter Tryz.func83,Tryz.ntmps83
  go_upto_region 1 with fail
  go_quiet (fail)
  go_wp2
  go_ret
  exact⟨rfl,Fr.drewN _ _ _⟩
end sha
namespace sha
open Go Go.RowKit lib bm
theorem AW:az Tryz.prog 147 32 (.int .u32 0) 1 4:=az.of Tryz.underlying147 (by kernel_rfl) rfl (by decide)
theorem qww:∃A:Array Value,A.size=80/\∀w:World,(Instr.makeSlice 147 (.int .i64 80) (.int .i64 80)).run Tryz.prog w = .ok (.slice (some ⟨w.heap.size,0,none⟩) 80 80) (w.alloc (.cells A 32)):=by obtain⟨i,hi,hz,hs,hb⟩:=AW.info;refine⟨madeCells (Value.int .u32 0).cells 80,size_madeCells _ _,λw=>?_⟩;have:=run_make (P:=Tryz.prog) w 147 32 i (.int .u32 0) Tryz.underlying147 hi hz .i64 .i64 80 80 (by omega) (Int.le_refl _) (by rw[hb];omega) (by omega);simpa[hs] using this
structure Wd (w:World) (B:Nat) (p:LB) (t:Nat):Prop where
 wb:∃A,w.heap[B]?=some (.cells A 32 (0,0))/\A.size=80/\∀j,j<t->A[j]?=some (.int .u32 (sv p j))
theorem Wd.fr {S:LN} {w w':World} {B t:Nat} {p:LB} (h:Wd w B p t) (f:Fr S w w') (hB:B∉S):Wd w' B p t:=by obtain⟨A,hA,r⟩:=h.wb;exact⟨A,f.af hA hB,r⟩
theorem Wd.store {w:World} {B t:Nat} {p:LB} (h:Wd w B p t) (ht:t<80) (v:Int) (hv:v=sv p t):Wd (w.setCell ⟨B,t,none⟩ (.int .u32 v)) B p (t+1):=by
 obtain⟨A,hA,dW,dZ⟩:=h.wb;refine⟨_,bI hA _,by simp[dW],λj hj=>?_⟩;by_cases e:j=t
 ·subst e;rw[iG (by omega),hv]
 ·rw[aX (by omega)];exact dZ j (by omega)
theorem zcm (bs:LB) (w:World) (hlen:bs.length<=140737488355000) :
  Calls Tryz.prog 51 #[.string (str bs)] w λe w'=>(∃a c,e = .returned (.slice a 20 c)/\lib.Rd w' a c (dX bs)/\∀x∈lib.af a,w.heap.size<=x/\x<w'.heap.size)/\Fr [] w w':=by
 obtain⟨L,hL⟩:=ai bs.length;have cV:(str bs).size=L:=by rw[hL];simp[str,ByteArray.size]
 rw[<-hL]at hlen;have H:=ah hL;clear hL;go_enter Tryz.func51,Tryz.ntmps51;go_upto_block 0 with (first
  | (refine qh3 (e:=5) Tryz.underlying9 Tryz.underlying23 Tryz.underlying5 rfl _ rfl bs rfl (by unfold maxLen;have:=H.out;omega) ?_;intro fN w1 cY Ds f1 hH;rw[<-H.out]at cY ⊢;have H1:=aw Ds f1 hH;clear Ds f1 hH)
  | (refine XC sums.aq rfl _ _ rfl (some ⟨w.heap.size,0,none⟩) L fN (bs.map bv) rfl (H1.o0.fr ((Fr.refl [] w1).alloc (.cells #[.int .u8 128] 5)) (by simp)) (by rw[bW];exact H.out.symm) (some ⟨w1.heap.size,0,none⟩) 1 1 [.int .u8 128] rfl (by omega) (by simp) (Ae w1 _ _ _) rfl (by simp[Value.oneCell']) (by omega) (by unfold maxLen;omega) ?_;intro a2 q2 w2 A2;have H2:=ah A2;clear A2))
 have AJ:Fr [] w w2:=(H1.o1.trans ((Fr.refl [] w1).alloc (.cells #[.int .u8 128] 5))).step H2.out.fr (λy hy=>.inr (by simp[lib.af]at hy;omega));have vr:∀x∈lib.af a2,w.heap.size<=x:=λx hx=>by
  have h1:=H1.o1.size;rcases H2.out.at_ x hx with k|k
  ·simp[lib.af]at k;omega
  ·rw[fD]at k;omega
 have oJ:kB w2 5 a2 q2 ((bs++[128]).map bv):=by rw[gF];exact H2.out.own
 obtain⟨Z,hZ⟩:=ai (vR (L+1));have Ud:Z<64/\(L+1+Z)%64=56:=by rw[hZ];unfold vR;omega
 have HW:=aG AJ vr oJ hZ;clear AJ vr oJ hZ H1 H2;go_wp2;go_loopg [4] Z (λk s4 wr=>∃(j N:Nat) (a:OA) (q:Nat),s4 = .slice a N q/\N=L+1+j/\j+k=Z/\kB wr 5 a q ((bs++[128]++List.replicate j 0).map bv)/\Fr [] w wr/\∀x∈lib.af a,w.heap.size<=x);case atStart=>exact⟨0,L+1,a2,q2,rfl,rfl,by omega,by simpa using HW.o2,HW.o0,HW.o1⟩
 case round=>
  obtain⟨j,N,a,q,rfl,hN,fx,aI,hf,fL⟩:=hrel;obtain⟨p1,p2,p3⟩:=aI.shape;have oN:(bs++[128]++List.replicate j (0:UInt8)).length=N:=by simp only[aA,yd,Am];rw[<-H.out,hN]
  rw[bW,oN]at p1;have HR:=aG aI hf fL oN;clear aI hf fL oN;have ZL:N<=140737488355200:=by omega
  by_cases hj:j<Z
  ·obtain⟨k,rfl⟩:∃k,gk=k+1:=⟨gk-1,by omega⟩;have cQ:¬(N%64=56):=by omega
   have d1:((N:Int)%64 !=56)=true:=by simp;omega
   have HN:=ak hN fx;clear cQ hN fx;go_wp2_with (refine XC sums.aq rfl _ _ rfl a N q ((bs++[128]++List.replicate j 0).map bv) rfl (HR.o0.fr ((Fr.refl [] wr).alloc (.cells #[.int .u8 0] 5)) (by simp)) (by rw[bW];exact HR.l3) (some ⟨wr.heap.size,0,none⟩) 1 1 [.int .u8 0] rfl (by omega) (by simp) (Ae wr _ _ _) rfl (by simp[Value.oneCell']) (by omega) (by unfold maxLen;omega) ?_;intro a4 q4 w4 A4;have H4:=ah A4;clear A4);go_roundg k;case measure=>omega
   case rel=>
    obtain⟨hN,fx⟩:=HN.out;refine⟨j+1,N+1,a4,q4,rfl,by omega,by omega,?_,(HR.o1.trans ((Fr.refl [] wr).alloc (.cells #[.int .u8 0] 5))).step H4.out.fr (λy hy=>.inr (HR.o2 y hy)),λx hx=>?_⟩
    ·rw[Ix,<-eE,gF];exact H4.out.own
    ·have h1:=HR.o1.size;rcases H4.out.at_ x hx with k|k
     ·exact HR.o2 x k
     ·rw[fD]at k;omega
  ·obtain rfl:j=Z:=by omega
   obtain rfl:gk=0:=by omega
   have d1:((N:Int)%64 !=56)=false:=by simp;omega
   obtain⟨x1,eQ⟩:∃x,x=L/536870912:=⟨_,rfl⟩;obtain⟨x2,kt⟩:∃x,x=L*8%4294967296:=⟨_,rfl⟩;have e1:(L:Int)*8/4294967296=(x1:Int):=by omega
   have e2:((L:Int)*8)%4294967296=(x2:Int):=by omega
   have X7:x1<4294967296:=by omega
   have OD:x2<4294967296:=by omega
   have yo:=λw' h=>qqv (some ⟨wr.heap.size,0,none⟩) 2 [x1,x2] w' h (by intro v hv;simp only[fP,wL,or_false]at hv;rcases hv with rfl|rfl<;>assumption) (by simp) (by simp) (by decide)
   have vo:bs++[128]++List.replicate j (0:UInt8)++mI [x1,x2]=dz bs L:=by
    have:mI [x1,x2]=sums.fX x1++sums.fX x2:=by simp[mI]
    rw[this,dz,oF,eQ,kt,<-H.out,<-HW.l3,<-eE]
   have HN:=aw hN yo vo;clear hN fx yo vo eQ kt hj;have fAl:Fr [] w (wr.alloc (.cells #[.int .u32 x1,.int .u32 x2] 32)):=HR.o1.alloc _;have Gu:=HR.o0.fr ((Fr.refl [] wr).alloc (.cells #[.int .u32 x1,.int .u32 x2] 32)) (by simp);have HAl:=ak fAl Gu;clear fAl Gu;go_upto_region 6 with (first
    | (go_at_call 82;refine (HN.out.2.1 _ (Ae wr #[.int .u32 x1,.int .u32 x2] 32 (0,0))).mono ?_;rintro e w5 ⟨a5,c5,rfl,r5,n5,f5⟩;have PF:=r5.le;rw[jI]at PF;simp only[bU,kg]at PF;have H5:=aw r5 n5 f5;clear r5 n5 f5)
    | (refine XC sums.aq rfl _ _ rfl a N q ((bs++[128]++List.replicate j 0).map bv) rfl (HAl.l1.fr H5.l2 (by simp)) (by rw[bW];exact HR.l3) a5 8 c5 ((mI [x1,x2]).map bv) rfl (by omega) H5.o0.nil H5.o0.cs (by rw[bW,jI];rfl) (sums.j3 _) (by omega) (by unfold maxLen;omega) ?_;intro a6 q6 w6 A6;rw[<-gF,HN.out.2.2]at A6;have H6:=ah A6;clear A6))
   obtain⟨pd,vo⟩:=ai (dz bs L);rw[<-vo]at H6;have PX:Fr [] w w6:=(HAl.o0.trans H5.l2).step H6.out.fr (λy hy=>.inr (HR.o2 y hy));have Jl:∀x∈lib.af a6,x<w6.heap.size:=H6.out.own.lt;have Ey:=H6.out.own.rd;have fY:pd.length=N+8:=by rw[vo,<-HN.out.2.2,aA,HR.l3,jI];rfl
   have EA:pd.length%64=0:=by rw[vo];exact qj1 bs L
   obtain⟨PB,Qp⟩:=ai pd.length;obtain⟨RES,JW⟩:=ai (blocks PB h0 pd);have dh:dX bs=vI RES:=by rw[qlp,<-H.out,<-vo,<-Qp,<-JW]
   rw[<-Qp]at EA;rw[show N+8=PB by omega];have Zk:=Ey.le;have Zm:=Ey.max;unfold maxLen at Zm;rw[<-Qp]at Zk;have zcQ:PB<=140737488355300:=by omega
   have HP:=cJ PX Jl Ey Qp JW dh;clear PX Jl Ey fY Qp JW dh vo H5 H6 HAl d1 e1 e2 X7 OD;obtain⟨UP,QG,lT⟩:=qww;go_upto_block 2 with fail;obtain⟨Q,w7,hQ,Dn,f7,b7,d7⟩:∃Q w7,Q=w6.heap.size/\w7=(w6.alloc (.cells #[.int .u32 1732584193,.int .u32 4023233417,.int .u32 2562383102,.int .u32 271733878,.int .u32 3285377520] 32)).alloc (.cells UP 32)/\Fr [] w6 w7/\w7.heap[Q]?=some (.cells h0.vals 32 (0,0))/\w7.heap[Q+1]?=some (.cells UP 32 (0,0)):=
    ⟨_,_,rfl,rfl,((Fr.refl [] w6).alloc _).alloc _,qm _ (bC w6 _),by have:=bC (w6.alloc (.cells #[.int .u32 1732584193,.int .u32 4023233417,.int .u32 2562383102,.int .u32 271733878,.int .u32 3285377520] 32)) (.cells UP 32);rw[fD]at this;exact this⟩
   rw[<-Dn,<-hQ];have H7:=aQ f7 b7 d7 hQ QG;clear Dn hQ f7 b7 d7 lT QG;go_wp2;go_loopg [5,7] PB (λk s5 s7 wr=>∃(at_ B:Nat) (h':H5),s7 = .int .i64 (at_:Nat)/\s5 = .slice (some ⟨B,0,none⟩) 5 5/\at_%64=0/\at_<=PB/\PB-at_<=k/\B≠Q+1/\wr.heap[B]?=some (.cells h'.vals 32 (0,0))/\Wd wr (Q+1) [] 0/\Fr [Q+1] w7 wr/\G7 h'/\blocks k h' (pd.drop at_)=RES);case atStart=>exact⟨0,Q,h0,rfl,rfl,rfl,ep _,by omega,by omega,H7.o1,⟨UP,H7.o2,H7.l4,λj hj=>by omega⟩,Fr.refl _ _,UW,HP.o4.symm⟩
   case round=>
    obtain⟨at_,B,h',rfl,rfl,bR,zcP,JO,QF,vB,yo,hf,L5,bQ⟩:=hrel;have HL:=dk QF vB yo hf L5 bQ JO;have zaS:=JO;clear QF vB yo hf L5 bQ JO;by_cases bg:at_<PB
    ·have pN:at_+64<=PB:=by omega
     obtain⟨k,rfl⟩:∃k,gk=k+1:=⟨gk-1,by omega⟩;obtain⟨p,hp⟩:=ai (pd.drop at_);have fY:p.length=PB-at_:=by rw[hp,eV,<-HP.o3]
     have DJ:=ak hp fY;clear hp fY;obtain⟨wo,tF⟩:=ai wr;rw[<-tF]at HL ⊢;clear tF;go_upto_block 4 with fail;go_wp2;go_loopg [8] 80 (λk s8 wz=>∃t:Nat,s8 = .int .i64 (t:Nat)/\t+k=80/\Wd wz (Q+1) p t/\Fr [Q+1] wo wz);case atStart=>exact⟨0,rfl,rfl,(by obtain⟨A,h1,h2,_⟩:=HL.out.2.2.1.wb;exact⟨A,h1,h2,λj hj=>by omega⟩),Fr.refl _ _⟩
     case round=>
      obtain⟨t,rfl,cH,yo,hf⟩:=hrel;have AK:=ak yo hf;clear yo hf;by_cases ht:t<80
      ·obtain⟨k2,rfl⟩:∃k,gk=k+1:=⟨gk-1,by omega⟩;obtain⟨A,hA,dW,dZ⟩:=AK.out.1.wb;have zA:=aW hA t;obtain⟨xo,Oz⟩:∃x,wr.cell? ⟨Q+1,t,none⟩=some x:=⟨A[t]'(by omega),by rw[cell_of hA];exact tr (by omega)⟩;have it:(t:Int)<80:=by omega
       by_cases Eu:t<16
       ·obtain⟨m0,xu⟩:∃m,m=at_+4*t:=⟨_,rfl⟩;have em0:(at_:Int)+4*(t:Int)=(m0:Int):=by omega
        have Hm0:=ah xu;have Kw:=aQ hA dW dZ zA Oz;clear xu hA dW dZ zA Oz;go_upto_region 16 with fail;have xu:=Hm0.out;have zA:=Kw.out.2.2.2.1;have Oz:=Kw.out.2.2.2.2;have ku:=(HP.o2.fr H7.o0).gJ (HL.out.2.2.2.1.trans AK.out.2) (λx hx hm=>by have:=HP.o1 x hx;have:=H7.o3;simp at hm;omega);obtain⟨m1,jt⟩:∃m,m=m0+1:=⟨_,rfl⟩;obtain⟨m2,iy⟩:∃m,m=m0+2:=⟨_,rfl⟩;obtain⟨m3,Pu⟩:∃m,m=m0+3:=⟨_,rfl⟩;have ZK:=HP.o3;have b0:m0<pd.length:=by omega
        have b1:m1<pd.length:=by omega
        have b2:m2<pd.length:=by omega
        have b3:m3<pd.length:=by omega
        obtain⟨g,o,ea,X0⟩:=ku.at b0;obtain⟨_,_,q1,X1⟩:=ku.at b1;obtain⟨_,_,q2,X2⟩:=ku.at b2;obtain⟨_,_,q3,X3⟩:=ku.at b3;subst ea;simp only[eJ,ru,and_true]at q1 q2 q3;obtain⟨rfl,rfl⟩:=q1;obtain⟨rfl,rfl⟩:=q2;obtain⟨rfl,rfl⟩:=q3;have hw:word p (4*t)=((pd[m0].toNat*16777216+pd[m1].toNat*65536+pd[m2].toNat*256+pd[m3].toNat:Nat):Int):=by unfold word;rw[DJ.o0,Ai,Ai,Ai,Ai,show at_+4*t=m0 by omega,show at_+(4*t+1)=m1 by omega,show at_+(4*t+2)=m2 by omega,show at_+(4*t+3)=m3 by omega,br b0,br b1,br b2,br b3];rfl
        have l0:=iL pd[m0];have l1:=iL pd[m1];have l2:=iL pd[m2];have l3:=iL pd[m3];generalize pd[m0].toNat=y0 at *;generalize pd[m1].toNat=y1 at *;generalize pd[m2].toNat=y2 at *;generalize pd[m3].toNat=y3 at *;obtain⟨z1,jr⟩:∃z,z=y0*16777216+y1*65536:=⟨_,rfl⟩;obtain⟨z2,mv⟩:∃z,z=z1+y2*256:=⟨_,rfl⟩;obtain⟨z3,uY⟩:∃z,z=z2+y3:=⟨_,rfl⟩;have r1:bits .or .u32 ((y0:Int)*16777216) ((y1:Int)*65536)=(z1:Int):=by have:=sums.y8 (y0*16777216) (y1*65536) 24 (by omega) (by decide) (by omega) (by omega);rw[<-jr]at this;simpa using this
        have r2:bits .or .u32 (z1:Int) ((y2:Int)*256)=(z2:Int):=by have:=sums.y8 z1 (y2*256) 16 (by omega) (by decide) (by omega) (by omega);rw[<-mv]at this;simpa using this
        have r3:bits .or .u32 (z2:Int) (y3:Int)=(z3:Int):=by have:=sums.y8 z2 y3 8 (by omega) (by decide) (by omega) (by omega);rw[<-uY]at this;exact this
        have HV:Hid ((z3:Int)=sv p t):=ah (by rw[zhk p t Eu,hw];congr 1;omega);have HM:=aw jt iy Pu;have zbY:m0+3<PB:=by omega
        clear ku ZK hw jr mv uY xu jt iy Pu b0 b1 b2 b3 em0;have e1:(m0:Int)+1=(m1:Int):=by have:=HM.out;omega
        have e2:(m0:Int)+2=(m2:Int):=by have:=HM.out;omega
        have e3:(m0:Int)+3=(m3:Int):=by have:=HM.out;omega
        have U1:IntKind.i64.wrap ((m0:Int)+1)=(m1:Int):=by rw[oE];omega
        have KG:IntKind.i64.wrap ((m0:Int)+2)=(m2:Int):=by rw[oE];omega
        have U0:IntKind.i64.wrap ((m0:Int)+3)=(m3:Int):=by rw[oE];omega
        have i0:(m0:Int)<(PB:Int):=by omega
        have i1:(m1:Int)<(PB:Int):=by omega
        have i2:(m2:Int)<(PB:Int):=by omega
        have i3:(m3:Int)<(PB:Int):=by omega
        refine uO 32 (by kernel_rfl) (by kernel_rfl) ?_;simp only[uF];repeat (go_big_quiet_step (fail))
        refine wpQuiet_nil ?_;clear X0 X1 X2 X3 U1 KG U0 r1 r2 r3 e1 e2 e3;go_wp2;go_roundg k2;case measure=>omega
        case rel=>exact⟨t+1,by go_num,by omega,(AK.out.1.fr (Fr.av [] wr) (by simp)).store ht _ HV.out,(AK.out.2.trans (Fr.av [Q+1] wr)).setCell (by simp) _⟩
       ·have Kw:=aQ hA dW dZ zA Oz;clear hA dW dZ zA Oz;have OU:decide (t<16)=false:=by simpa using Eu
        go_upto_region 17 with fail;clear OU;obtain⟨hA,dW,dZ,_,_⟩:=Kw.out;obtain⟨n3,xm⟩:∃m,m=t-3:=⟨_,rfl⟩;obtain⟨n8,yx⟩:∃m,m=t-8:=⟨_,rfl⟩;obtain⟨wT,BW⟩:∃m,m=t-14:=⟨_,rfl⟩;obtain⟨wS,xp⟩:∃m,m=t-16:=⟨_,rfl⟩;have e3:(t:Int)-3=(n3:Int):=by omega
        have e8:(t:Int)-8=(n8:Int):=by omega
        have e14:(t:Int)-14=(wT:Int):=by omega
        have e16:(t:Int)-16=(wS:Int):=by omega
        have w3:IntKind.i64.wrap ((t:Int)-3)=(n3:Int):=by rw[oE];omega
        have w8:IntKind.i64.wrap ((t:Int)-8)=(n8:Int):=by rw[oE];omega
        have xV:IntKind.i64.wrap ((t:Int)-14)=(wT:Int):=by rw[oE];omega
        have ug:IntKind.i64.wrap ((t:Int)-16)=(wS:Int):=by rw[oE];omega
        have x3:∀x,(sup [] wr.drew x).cell? ⟨Q+1,n3,none⟩=some (.int .u32 (sv p n3)):=λx=>(dY [] wr.drew x).cell (show wr.drew.cell? _=_ from (cell_of hA n3).trans (dZ n3 (by omega))) (by simp)
        have x8:∀x,(sup [] wr.drew x).cell? ⟨Q+1,n8,none⟩=some (.int .u32 (sv p n8)):=λx=>(dY [] wr.drew x).cell (show wr.drew.cell? _=_ from (cell_of hA n8).trans (dZ n8 (by omega))) (by simp)
        have UZ:∀x,(sup [] wr.drew x).cell? ⟨Q+1,wT,none⟩=some (.int .u32 (sv p wT)):=λx=>(dY [] wr.drew x).cell (show wr.drew.cell? _=_ from (cell_of hA wT).trans (dZ wT (by omega))) (by simp)
        have UY:∀x,(sup [] wr.drew x).cell? ⟨Q+1,wS,none⟩=some (.int .u32 (sv p wS)):=λx=>(dY [] wr.drew x).cell (show wr.drew.cell? _=_ from (cell_of hA wS).trans (dZ wS (by omega))) (by simp)
        have i3:(n3:Int)<80:=by omega
        have i8:(n8:Int)<80:=by omega
        have i14:(wT:Int)<80:=by omega
        have i16:(wS:Int)<80:=by omega
        have hv:=zhl p t (by omega) ht;rw[<-xm,<-yx,<-BW,<-xp]at hv;have HV:=ah hv;clear hA dW dZ xm yx BW xp hv;refine j4 27 [(false,0),(false,1),(false,2),(false,3),(false,4),(false,5),(false,6),(false,7),(false,8),(false,9),(false,10),(false,11),(false,12),(false,13),(false,14),(false,15),(false,16),(false,17),(false,18),(false,19),(false,20),(false,21),(false,22),(false,23),(false,24),(true,25),(false,26)] [] (by kernel_rfl) (by kernel_rfl) (λ_ _ d _ _ h=>by cases d<;>exact h) ?_;simp only[jm];refine dT 25 rfl ?_;simp only[bD];repeat (go_big_quiet_step (fail))
        refine wpQuiet_nil ?_;clear x3 x8 UZ UY w3 w8 xV ug e3 e8 e14 e16;refine eT rfl ?_;intro X hX;go_wp2_with (go_at_call 83;refine (DV _ 1 _ (.inl rfl)).mono ?_;rintro e w8 ⟨rfl,f8⟩);refine hX.out _ _ f8 ?_;clear hX X;refine dT 1 rfl ?_;simp only[bD];repeat (go_big_quiet_step (fail))
        refine wpQuiet_nil ?_;refine ic ?_;have ZX:=f8.af (show wr.drew.heap[Q+1]?=_ from Kw.out.1) (by simp);have z8:=aW ZX t;have c8:w8.cell? ⟨Q+1,t,none⟩=some (A[t]'(by rw[Kw.out.2.1];exact ht)):=by rw[cell_of ZX];exact tr (by rw[Kw.out.2.1];exact ht)
        have H8:=ah f8;clear ZX f8;go_wp2;go_roundg k2;case measure=>omega
        case rel=>exact⟨t+1,by go_num,by omega,((AK.out.1.fr (Fr.av [] wr) (by simp)).fr H8.out (by simp)).store ht _ HV.out.symm,((AK.out.2.trans (Fr.av [Q+1] wr)).trans (H8.out.mono (by simp))).setCell (by simp) _⟩
      ·obtain rfl:t=80:=by omega
       obtain rfl:gk=0:=by omega
       have vB:=AK.out.2.af HL.out.2.1 (by simp;exact HL.out.1);have k0:=cell_of vB 0;have k1:=cell_of vB 1;have k2:=cell_of vB 2;have k3:=cell_of vB 3;have k4:=cell_of vB 4;unfold H5.vals at k0 k1 k2 k3 k4;simp only[bF,aT,bP]at k0 k1 k2 k3 k4;have Kv:=ah vB;clear vB;obtain⟨wi,hwi⟩:=ai wr;rw[<-hwi]at AK Kv k0 k1 k2 k3 k4 ⊢;clear hwi;go_upto_block 6 with fail;clear k0 k1 k2 k3 k4;go_wp2;go_loopg [10,11,12,13,14,15] 80 (λk s10 s11 s12 s13 s14 s15 wr=>∃t:Nat,s15 = .int .i64 (t:Nat)/\t+k=80/\s10 = .int .u32 (rounds p t h').a/\s11 = .int .u32 (rounds p t h').b/\s12 = .int .u32 (rounds p t h').c/\s13 = .int .u32 (rounds p t h').d/\s14 = .int .u32 (rounds p t h').e/\Fr [] wi wr);case atStart=>exact⟨0,rfl,rfl,rfl,rfl,rfl,rfl,rfl,Fr.refl _ _⟩
       case round=>
        obtain⟨t,rfl,zbC,rfl,rfl,rfl,rfl,rfl,hf⟩:=hrel;have HF:=ah hf;clear hf;by_cases ht:t<80
        ·obtain⟨k3,rfl⟩:∃k,gk=k+1:=⟨gk-1,by omega⟩;have fG:rounds p (t+1) h'=round p t (rounds p t h'):=rfl;unfold round at fG;have OV:(sched p 80)[t]?.getD 0=sv p t:=rfl;rw[OV]at fG;generalize rounds p t h'=s at *;obtain⟨sa,sb,sc,sd,se⟩:=s;simp only at fG;obtain⟨A,hA,dW,dZ⟩:=(AK.out.1.fr HF.out (by simp)).wb;have xw:∀x,(sup [] wr.drew x).cell? ⟨Q+1,t,none⟩=some (.int .u32 (sv p t)):=λx=>(dY [] wr.drew x).cell (show wr.drew.cell? _=_ from (cell_of hA t).trans (dZ t ht)) (by simp)
         have it:(t:Int)<80:=by omega
         obtain⟨q3,hq⟩:∃q,q=t/20:=⟨_,rfl⟩;rw[<-hq]at fG;have UJ:=ah fG;clear fG OV hA dW dZ;rcases (show q3=0\/q3=1\/q3=2\/q3=3 by omega) with rfl|rfl|rfl|rfl
         ·have J2:decide ((60:Int)<=(t:Int))=false:=by simp;omega
          have xF:decide (60<=t)=false:=by simp;omega
          have J3:decide ((40:Int)<=(t:Int))=false:=by simp;omega
          have xG:decide (40<=t)=false:=by simp;omega
          have g20:decide ((20:Int)<=(t:Int))=false:=by simp;omega
          have xH:decide (20<=t)=false:=by simp;omega
          clear hq;go_upto_region 37 with fail;clear J2 J3 g20 xF xG xH;refine j4 14 [(false,0),(false,2),(false,4),(false,6),(false,8),(false,9),(false,10),(false,11),(true,1),(false,3),(false,5),(false,7),(false,12),(false,13)] [] (by kernel_rfl) (by kernel_rfl) (λ_ _ d _ _ h=>by cases d<;>exact h) ?_;simp only[jm];refine dT 8 rfl ?_;simp only[bD];repeat (go_big_quiet_step (fail))
          refine wpQuiet_nil ?_;clear xw;refine eT rfl ?_;intro X hX;go_wp2_with (go_at_call 83;refine (DV _ 5 _ (.inr (.inl rfl))).mono ?_;rintro e w8 ⟨rfl,f8⟩);refine hX.out _ _ f8 ?_;clear hX X;refine dT 5 rfl ?_;simp only[bD];repeat (go_big_quiet_step (fail))
          refine wpQuiet_nil ?_;refine ic ?_;have H8:=ah f8;clear f8;go_wp2_with (go_at_call 83;refine (DV _ 30 _ (.inr (.inr rfl))).mono ?_;rintro e w9 ⟨rfl,f9⟩;have H9:=ah f9;clear f9);go_roundg k3;case measure=>omega
          case rel=>
           refine⟨t+1,by go_num,by omega,?_,?_,?_,?_,?_,((HF.out.trans (Fr.av [] wr)).trans H8.out).trans H9.out⟩;all_goals rw[UJ.out]
           all_goals (first|rfl|(simp only[cW,FD,FC,tV,tD,ch,par,LF,uW]))
         ·have J2:decide ((60:Int)<=(t:Int))=false:=by simp;omega
          have xF:decide (60<=t)=false:=by simp;omega
          have J3:decide ((40:Int)<=(t:Int))=false:=by simp;omega
          have xG:decide (40<=t)=false:=by simp;omega
          have g20:(20:Int)<=(t:Int):=by omega
          have xH:20<=t:=by omega
          clear hq;go_upto_region 37 with fail;clear J2 J3 g20 xF xG xH;refine j4 14 [(false,0),(false,2),(false,4),(false,6),(false,8),(false,9),(false,10),(false,11),(true,1),(false,3),(false,5),(false,7),(false,12),(false,13)] [] (by kernel_rfl) (by kernel_rfl) (λ_ _ d _ _ h=>by cases d<;>exact h) ?_;simp only[jm];refine dT 8 rfl ?_;simp only[bD];repeat (go_big_quiet_step (fail))
          refine wpQuiet_nil ?_;clear xw;refine eT rfl ?_;intro X hX;go_wp2_with (go_at_call 83;refine (DV _ 5 _ (.inr (.inl rfl))).mono ?_;rintro e w8 ⟨rfl,f8⟩);refine hX.out _ _ f8 ?_;clear hX X;refine dT 5 rfl ?_;simp only[bD];repeat (go_big_quiet_step (fail))
          refine wpQuiet_nil ?_;refine ic ?_;have H8:=ah f8;clear f8;go_wp2_with (go_at_call 83;refine (DV _ 30 _ (.inr (.inr rfl))).mono ?_;rintro e w9 ⟨rfl,f9⟩;have H9:=ah f9;clear f9);go_roundg k3;case measure=>omega
          case rel=>
           refine⟨t+1,by go_num,by omega,?_,?_,?_,?_,?_,((HF.out.trans (Fr.av [] wr)).trans H8.out).trans H9.out⟩;all_goals rw[UJ.out]
           all_goals (first|rfl|(simp only[cW,FD,FC,tV,tD,ch,par,LF,uW]))
         ·have J2:decide ((60:Int)<=(t:Int))=false:=by simp;omega
          have xF:decide (60<=t)=false:=by simp;omega
          have J3:(40:Int)<=(t:Int):=by omega
          have xG:40<=t:=by omega
          have g20:(20:Int)<=(t:Int):=by omega
          have xH:20<=t:=by omega
          clear hq;go_upto_region 37 with fail;clear J2 J3 g20 xF xG xH;refine j4 14 [(false,0),(false,2),(false,4),(false,6),(false,8),(false,9),(false,10),(false,11),(true,1),(false,3),(false,5),(false,7),(false,12),(false,13)] [] (by kernel_rfl) (by kernel_rfl) (λ_ _ d _ _ h=>by cases d<;>exact h) ?_;simp only[jm];refine dT 8 rfl ?_;simp only[bD];repeat (go_big_quiet_step (fail))
          refine wpQuiet_nil ?_;clear xw;refine eT rfl ?_;intro X hX;go_wp2_with (go_at_call 83;refine (DV _ 5 _ (.inr (.inl rfl))).mono ?_;rintro e w8 ⟨rfl,f8⟩);refine hX.out _ _ f8 ?_;clear hX X;refine dT 5 rfl ?_;simp only[bD];repeat (go_big_quiet_step (fail))
          refine wpQuiet_nil ?_;refine ic ?_;have H8:=ah f8;clear f8;go_wp2_with (go_at_call 83;refine (DV _ 30 _ (.inr (.inr rfl))).mono ?_;rintro e w9 ⟨rfl,f9⟩;have H9:=ah f9;clear f9);go_roundg k3;case measure=>omega
          case rel=>
           refine⟨t+1,by go_num,by omega,?_,?_,?_,?_,?_,((HF.out.trans (Fr.av [] wr)).trans H8.out).trans H9.out⟩;all_goals rw[UJ.out]
           all_goals (first|rfl|(simp only[cW,FD,FC,tV,tD,ch,par,LF,uW]))
         ·have J2:(60:Int)<=(t:Int):=by omega
          have xF:60<=t:=by omega
          have J3:(40:Int)<=(t:Int):=by omega
          have xG:40<=t:=by omega
          have g20:(20:Int)<=(t:Int):=by omega
          have xH:20<=t:=by omega
          clear hq;go_upto_region 37 with fail;clear J2 J3 g20 xF xG xH;refine j4 14 [(false,0),(false,2),(false,4),(false,6),(false,8),(false,9),(false,10),(false,11),(true,1),(false,3),(false,5),(false,7),(false,12),(false,13)] [] (by kernel_rfl) (by kernel_rfl) (λ_ _ d _ _ h=>by cases d<;>exact h) ?_;simp only[jm];refine dT 8 rfl ?_;simp only[bD];repeat (go_big_quiet_step (fail))
          refine wpQuiet_nil ?_;clear xw;refine eT rfl ?_;intro X hX;go_wp2_with (go_at_call 83;refine (DV _ 5 _ (.inr (.inl rfl))).mono ?_;rintro e w8 ⟨rfl,f8⟩);refine hX.out _ _ f8 ?_;clear hX X;refine dT 5 rfl ?_;simp only[bD];repeat (go_big_quiet_step (fail))
          refine wpQuiet_nil ?_;refine ic ?_;have H8:=ah f8;clear f8;go_wp2_with (go_at_call 83;refine (DV _ 30 _ (.inr (.inr rfl))).mono ?_;rintro e w9 ⟨rfl,f9⟩;have H9:=ah f9;clear f9);go_roundg k3;case measure=>omega
          case rel=>
           refine⟨t+1,by go_num,by omega,?_,?_,?_,?_,?_,((HF.out.trans (Fr.av [] wr)).trans H8.out).trans H9.out⟩;all_goals rw[UJ.out]
           all_goals (first|rfl|(simp only[cW,FD,FC,tV,tD,ch,par,LF,uW]))
        ·obtain rfl:t=80:=by omega
         obtain rfl:gk=0:=by omega
         have vB:=HF.out.af Kv.out (by simp);have zbZ:=lt_of_block AK.out.1.wb.choose_spec.1;obtain⟨s,hs⟩:=ai (rounds p 80 h');rw[<-hs];obtain⟨ha,hb,hc,hd,he⟩:=h';have c0:∀x,(sup [] wr.drew x).cell? ⟨B,0,none⟩=some (.int .u32 ha):=λx=>(dY [] wr.drew x).cell (show wr.drew.cell? _=_ from cell_of vB 0) (by simp)
         have c1:∀x,(sup [] wr.drew x).cell? ⟨B,1,none⟩=some (.int .u32 hb):=λx=>(dY [] wr.drew x).cell (show wr.drew.cell? _=_ from cell_of vB 1) (by simp)
         have c2:∀x,(sup [] wr.drew x).cell? ⟨B,2,none⟩=some (.int .u32 hc):=λx=>(dY [] wr.drew x).cell (show wr.drew.cell? _=_ from cell_of vB 2) (by simp)
         have c3:∀x,(sup [] wr.drew x).cell? ⟨B,3,none⟩=some (.int .u32 hd):=λx=>(dY [] wr.drew x).cell (show wr.drew.cell? _=_ from cell_of vB 3) (by simp)
         have c4:∀x,(sup [] wr.drew x).cell? ⟨B,4,none⟩=some (.int .u32 he):=λx=>(dY [] wr.drew x).cell (show wr.drew.cell? _=_ from cell_of vB 4) (by simp)
         obtain⟨sa,sb,sc,sd,se⟩:=s;have HS:=ah hs;clear vB hs;go_upto_region 43 with fail;refine j4 26 [(false,0),(false,1),(false,2),(false,3),(false,4),(false,5),(false,6),(false,7),(false,8),(false,9),(false,10),(false,11),(false,12),(false,13),(false,14),(false,15),(false,16),(false,17),(false,18),(false,19),(false,20),(false,21),(false,22),(false,23),(false,24),(true,25)] [] (by kernel_rfl) (by kernel_rfl) (λ_ _ d _ _ h=>by cases d<;>exact h) ?_;simp only[jm];refine dT 25 rfl ?_;simp only[bD];repeat (go_big_quiet_step (fail))
         refine wpQuiet_nil ?_;clear c0 c1 c2 c3 c4;refine eT rfl ?_;intro X hX;go_wp2;refine hX.out _ _ ((Fr.refl _ wr.drew).alloc _) ?_;clear hX X;refine ic ?_;go_wp2;go_roundg (PB-at_-64);case measure=>omega
         case rel=>
          have f9:Fr [Q+1] w7 wr:=(HL.out.2.2.2.1.trans AK.out.2).trans (HF.out.mono (by simp));have Yy:64<=p.length:=by rw[DJ.l1];omega
          have oo:=HL.out.2.2.2.2.2.1;rw[<-DJ.o0,blocks,if_pos Yy]at oo;have hmx:kr ⟨ha,hb,hc,hd,he⟩ p=⟨cW ha sa,cW hb sb,cW hc sc,cW hd sd,cW he se⟩:=by unfold kr;rw[<-HS.out]
          refine⟨at_+64,wr.drew.heap.size,kr ⟨ha,hb,hc,hd,he⟩ p,by go_num,rfl,by omega,pN,by omega,?_,?_,?_,(f9.trans (Fr.av _ wr)).alloc _,V6 _ _,?_⟩
          ·have:=HF.out.size;show wr.heap.size≠Q+1;omega
          ·rw[hmx];exact (bC wr.drew _).trans rfl
          ·obtain⟨A,g1,g2,_⟩:=(AK.out.1.fr HF.out (by simp)).wb;exact⟨A,((Fr.av [] wr).alloc _).af g1 (by simp),g2,λj hj=>by omega⟩
          ·rw[<-C5,<-DJ.o0,<-oo];exact SZ _ _ _ _ (by rw[eV,DJ.l1];omega) (by rw[eV,DJ.l1];have:=HL.out.2.2.2.2.2.2;omega)
    ·obtain rfl:at_=PB:=by omega
     have tI:pd.drop at_=[]:=Dh (by rw[<-HP.o3];exact ay _);have bQ:=HL.out.2.2.2.2.2.1;rw[tI]at bQ;have hh:h'=RES:=by
      rw[<-bQ];cases gk with
      | zero=>rfl
      | succ k=>rw[blocks,if_neg (by decide)]
     obtain⟨r0,r1,r2,r3,r4⟩:=HL.out.2.2.2.2.1;obtain⟨ha,hb,hc,hd,he⟩:=h';simp only at r0 r1 r2 r3 r4;have hcs:Cs wr (some ⟨B,0,none⟩) ([ha.toNat,hb.toNat,hc.toNat,hd.toNat,he.toNat].map wv):=by
      refine .inr ⟨B,0,rfl,λj v hv=>?_⟩;rw[ft,cell_of HL.out.2.1];have e:([ha.toNat,hb.toNat,hc.toNat,hd.toNat,he.toNat].map wv)=(H5.vals ⟨ha,hb,hc,hd,he⟩).toList:=by simp only[gX,qq,wv,H5.vals];rw[FO r0.1,FO r1.1,FO r2.1,FO r3.1,FO r4.1]
      rw[e,oY]at hv;exact hv
     have yo:=qqv (some ⟨B,0,none⟩) 5 [ha.toNat,hb.toNat,hc.toNat,hd.toNat,he.toNat] wr hcs (by intro v hv;simp only[fP,wL,or_false]at hv;rcases hv with rfl|rfl|rfl|rfl|rfl<;>omega) (by simp) (by simp) (by decide);have Jy:Fr [] w wr:=(HP.o0.trans H7.o0).step HL.out.2.2.2.1 (λy hy=>.inr (by simp at hy;have:=HP.o0.size;have:=H7.o3;omega));have P7:mI [ha.toNat,hb.toNat,hc.toNat,hd.toNat,he.toNat]=dX bs:=by rw[HP.l5,<-hh];simp[mI,vI]
     have HX:=aw yo Jy P7;clear yo Jy P7 hcs r0 r1 r2 r3 r4 hh bQ tI;go_wp2_with (go_at_call 82;refine HX.o0.mono ?_;rintro e w9 ⟨a9,c9,rfl,r9,n9,f9⟩;have H9:=aw r9 n9 f9;clear r9 n9 f9);go_ret;refine⟨⟨a9,c9,rfl,by rw[<-HX.l2];exact H9.out.1,λx hx=>⟨ck HX.o1.size (H9.out.2.1 x hx).1,(H9.out.2.1 x hx).2⟩⟩,HX.o1.trans H9.out.2.2⟩
end sha

end Go.Proofs.YtkmpfgpfbmeihaaGreatDoor