/-
  Texts of this proof, one behind the other: Mix, PackHead, HexB, RGet, ShaLaw, SumB, ShaMix, ShaMix2.
-/
import Derived.Test.YtkmpfgpfbmeihaaGreatDoorQ2
import Derived.OrdersHeld
import Derived.Laws.MakeOwn
import Derived.Laws.EntriesVeiled
set_option maxHeartbeats 16000000
set_option maxRecDepth 100000
set_option linter.unusedVariables false
set_option linter.unusedSimpArgs false
namespace Go.Proofs.YtkmpfgpfbmeihaaGreatDoor
namespace lib
open Go
def jO:Op->Bool
 | .move _ | .assign _ | .pick .. | .load .. | .nilCheck _ | .binOp .. | .unOp .. | .convert .. | .slice .. | .fieldAddr .. | .field .. | .indexAddr .. | .index .. | .extract .. | .makeInterface ..=>true
 | .call { callee:=.builtin .len,.. } | .call { callee:=.builtin .cap,.. } | .call { callee:=.builtin .min,.. } | .call { callee:=.builtin .max,.. }=>true
 | _=>false
theorem qo3 {P:Program} {w w':World} {s:Sem Value} {f:FuncId} {args:AV}:(do pure (Next.value (<-s)):Sem Next).run P w≠.ok (.enter f args) w':=by
 intro h;rw[DR]at h;cases hr:s.run P w with
 | ok v u=>rw[hr]at h;simp[Result.andThen]at h
 | halt x u=>rw[hr]at h;simp[Result.andThen]at h
theorem qro {P:Program} {w w':World} {ρ:Operand->Value} {o:Oper} {f:FuncId} {args:AV} (h:jO o.op=true):(execOp ρ o).run P w≠.ok (.enter f args) w':=by
 obtain⟨dst,op,ty,pos,after,guard⟩:=o;cases op<;>simp only[jO,Di]at h<;>try (exact qo3)
 case move=>simp[execOp]
 case assign=>simp[execOp]
 case pick c a b=>
  intro h;simp only[execOp,DR]at h;cases hr:(asBool (ρ c)).run P w with
  | ok v u=>rw[hr]at h;simp[Result.andThen]at h
  | halt x u=>rw[hr]at h;simp[Result.andThen]at h
 case nilCheck x=>
  intro h;simp only[execOp]at h;split at h
  ·simp[runtimePanic,goPanic]at h
  ·simp[runtimePanic,goPanic]at h
  ·simp[runtimePanic,goPanic]at h
  ·split at h
   ·simp[runtimePanic,goPanic]at h
   ·simp[unsupported,Result.andThen]at h;split at h
    ·split at h<;>simp at h
    ·simp at h
   ·simp at h
  ·simp at h
 case call c=>
  obtain⟨callee,args,ts⟩:=c;cases callee with
  | value f=>simp[jO]at h
  | invoke r m=>simp[jO]at h
  | builtin b=>cases b<;>simp[jO]at h<;>(simp only[execOp,resolve,pure_bind,invoke,builtin];exact qo3)
theorem NR {P:Program} {o:Oper} {a:Act} {C:World->Prop} {w:World} {v:Value} (hk:jO o.op=true) (h:o.quietAt P a C w v) :
  (execOp a.eval o).run P w = .ok (.value v) w\/((execOp a.eval o).run P w = .ok .skip w/\v=undef):=by
 unfold Oper.quietAt at h;generalize hr:(execOp a.eval o).run P w=r at h;cases r with
 | ok n w'=>
  cases n<;>simp only[Oper.quietUpon]at h;case value u=>left;rw[h.1,h.2]
  case skip=>right;rw[h.1];exact⟨rfl,h.2⟩
  case enter f args=>exact absurd hr (qro hk)
 | halt x w'=>simp only[Oper.quietUpon]at h
open Classical in
noncomputable def sup (S:LN) (w x:World):World:=if Fr S w x then x else w
theorem dY (S:LN) (w x:World):Fr S w (sup S w x):=by
 unfold sup;split
 ·assumption
 ·exact Fr.refl _ _
theorem zcb {S:LN} {w x:World} (h:Fr S w x):sup S w x=x:=by unfold sup;rw[if_pos h]
@[go_sem] def fO (S:LN) (w:World):World->Prop:=λu=>∃x,u=sup S w x
theorem fO.of {S:LN} {w u:World} (h:Fr S w u):fO S w u:=⟨u,(zcb h).symm⟩
theorem fO.fr {S:LN} {w u:World} (h:fO S w u):Fr S w u:=by obtain⟨x,rfl⟩:=h;exact dY S w x
theorem fO.sub {S:LN} {w w':World} (h:Fr S w w'):∀u,fO S w' u->fO S w u:=λu hu=>fO.of (h.trans hu.fr)
@[go_sem] theorem ziu {S:LN} {w x:World} {a:Addr} (h:(w.cell? a).isSome=true) (hn:a.block∉S):(sup S w x).cell? a=w.cell? a:=by obtain⟨v,hv⟩:=Option.isSome_iff_exists.1 h;rw[hv,(dY S w x).cell hv hn]
section
variable {P : Program} {ops : Array Oper} {Q : Exit -> Act -> World -> Prop} {md : Region.Mode}
def QY (P:Program) (ops:Array Oper) (C:World->Prop) (o:Oper) (v:Value) (a:Act):Prop:=
 (Region.wanted o (yielded ops a.tmps)=true/\∀w,C w->(execOp a.eval o).run P w = .ok (.value v) w\/((execOp a.eval o).run P w = .ok .skip w/\v=undef))\/
 (Region.wanted o (yielded ops a.tmps)=false/\v=undef)
theorem QY.of_same {C:World->Prop} {o:Oper} {v:Value} {a a':Act} (hy:QY P ops C o v a) (he:execOp a'.eval o=execOp a.eval o)
  (hw:Region.wanted o (yielded ops a'.tmps)=Region.wanted o (yielded ops a.tmps)):QY P ops C o v a':=by
 unfold QY at *;rw[he,hw];exact hy
theorem QY.op {C:World->Prop} {i:Nat} {o:Oper} {v:Value} {a:Act} (hi:ops[i]?=some o) (hy:QY P ops C o v a) {K:Act->World->Prop} {w:World} (hC:C w) (h:K (a.put o.dst v) w):wpOp P ops Q i K a w:=by
 unfold wpOp;simp only[hi];rcases hy with⟨hw,hv⟩|⟨hw,rfl⟩
 ·rcases hv w hC with hr|⟨hr,rfl⟩
  ·simp only[hw,if_true,Oper.wp,hr,Oper.upon];exact .inl h
  ·simp only[hw,if_true,Oper.wp,hr,Oper.upon];exact .inl h
 ·simp only[hw,Di,if_false];exact h
theorem Wt {C:World->Prop} {j:Nat} {oi oj:Oper} {v:Value} (hj:ops[j]?=some oj) (bN:oi.apart ops oj=true)
  (mM:∀cs b,oi.op≠.select cs b) (BK:∀cs b,oj.op≠.select cs b)
  (hQ:∀c a d v w,Q (.panic c) (Act.put a d v) w->Q (.panic c) a w) {K:Act->World->Prop} {a:Act} {w:World}
  (hy:QY P ops C oi v a) (h:wpOp P ops Q j K (a.put oi.dst v) w) :
  wpOp P ops Q j (λa' w'=>QY P ops C oi v a'/\K (a'.put oi.dst v) w') a w:=by
 obtain⟨h1,h2,h3⟩:=Oper.apart_spec bN;have keep:∀(a:Act),QY P ops C oi v a->∀u,QY P ops C oi v (a.put oj.dst u):=λa hy u=>hy.of_same (execOp_put oi mM a oj.dst u h3) (wanted_put oi a oj.dst u h3)
 have Oj:∀d,QY P ops C oi v { a with defers:=d::a.defers }:=λd=>hy.of_same rfl rfl
 unfold wpOp at *;simp only[hj]at *;rw[wanted_put oj a oi.dst v h1]at h;by_cases hw:Region.wanted oj (yielded ops a.tmps)=true
 ·simp only[hw,if_true]at h ⊢;rcases h with h|⟨GU,PC⟩
  ·left;unfold Oper.wp at *;rw[execOp_put oj BK a oi.dst v h1]at h;generalize (execOp a.eval oj).run P w=r at *;cases r with
   | ok n w'=>
    cases n<;>simp only[Oper.upon]at h ⊢;case value u=>exact⟨keep a hy u,by rw[<-Act.put_comm a v u h2];exact h⟩
    case skip=>exact⟨keep a hy _,by rw[<-Act.put_comm a v undef h2];exact h⟩
    case defer d=>refine⟨keep _ (Oj d) _,?_⟩;rw[<-Act.put_comm _ v undef h2,<-Act.put_defers];exact h
    case enter f args=>
     refine Calls.mono h λe Fs he=>?_
     cases e with
     | returned u=>exact⟨keep a hy u,by rw[<-Act.put_comm a v u h2];exact he⟩
     | panicked c=>exact hQ _ _ _ _ _ he
     | outgrown=>exact he
    case row row args=>exact Rows.mono h λu Fs he=>⟨keep a hy u,by rw[<-Act.put_comm a v u h2];exact he⟩
   | halt x w'=>cases x<;>simp only[Oper.upon]at h ⊢;case panic u=>exact hQ _ _ _ _ _ h
  ·right;refine⟨?_,PC⟩;unfold Oper.asks at *;rw[execOp_put oj BK a oi.dst v h1]at GU;exact GU
 ·simp only[hw]at h ⊢;exact⟨keep a hy _,by rw[<-Act.put_comm a v undef h2];exact h⟩
def mR (P:Program) (md:Region.Mode) (ops:Array Oper) (Q:Exit->Act->World->Prop) (n:Nat) (C:World->Prop):Nat->Array Bool->Act->World->Prop
 | 0,listed,a,w=>Region.ready md ops listed=[]/\Q .normal a w
 | f+1,listed,a,w=>(Region.ready md ops listed=[]->Q .normal a w)/\
  ∀i∈Region.ready md ops listed,wpOp P ops Q i (λa' w'=>(i<n->C w')/\mR P md ops Q n C f (listed.setIfInBounds i true) a' w') a w
theorem Sx {n:Nat} {C C':World->Prop} (hC:∀u,C' u->C u):∀(f:Nat) (listed:Array Bool) (a:Act) (w:World),mR P md ops Q n C' f listed a w->mR P md ops Q n C f listed a w
 | 0,_,_,_,h=>h
 | f+1,_,_,_,h=>⟨h.1,λi hi=>wpOp_mono (λa' w' h'=>⟨λhn=>hC _ (h'.1 hn),Sx hC f _ a' w' h'.2⟩) (h.2 i hi)⟩
theorem SX {n:Nat} {C:World->Prop}:∀(f:Nat) (listed:Array Bool) (a:Act) (w:World),mR P md ops Q n C f listed a w->wpAny P md ops Q f listed a w
 | 0,_,_,_,h=>h
 | f+1,_,_,_,h=>⟨h.1,λi hi=>wpOp_mono (λa' w' h'=>SX f _ a' w' h'.2) (h.2 i hi)⟩
theorem SJ {n i:Nat} {oi:Oper} {v:Value} {C:World->Prop} (hi:ops[i]?=some oi) (cE:∀(j:Nat) (o:Oper) cs b,ops[j]?=some o->o.op≠.select cs b)
  (hQ:∀c a d v w,Q (.panic c) (Act.put a d v) w->Q (.panic c) a w) (dP:i<n)
  (hT:∀listed,HeadInv md ops n listed->listed.getD i true=false->∀t,n<=t->t∉Region.ready md ops listed) :
  ∀(f:Nat) (listed:Array Bool) (a:Act) (w:World),HeadInv md ops n listed->
   (∀j oj,ops[j]?=some oj->j≠i->listed.getD j true=false->(∀e∈oj.after,Region.binds md e=true->e.on≠i)->oi.apart ops oj=true)->
   i∈Region.ready md ops listed->QY P ops C oi v a->C w->
   mR P md ops Q n C f (listed.setIfInBounds i true) (a.put oi.dst v) w->mR P md ops Q n C (f+1) listed a w:=by
 intro f;induction f with
 | zero=>
  intro listed a w inv _ hr hy hC H;refine⟨λh=>(by rw[h]at hr;cases hr),λj hj=>?_⟩;by_cases iz:j=i
  ·subst iz;exact hy.op hi hC ⟨λ_=>hC,H⟩
  ·have:=ready_mono hj iz;rw[H.1]at this;cases this
 | succ f ih=>
  intro listed a w inv oP hr hy hC H;have nY:=(mem_ready.1 hr).1;refine⟨λh=>(by rw[h]at hr;cases hr),λj hj=>?_⟩;by_cases iz:j=i
  ·subst iz;exact hy.op hi hC ⟨λ_=>hC,H⟩
  ·have EL:j<n:=by
    rcases kI j n with h|h
    ·exact h
    ·exact absurd hj (hT listed inv nY j h)
   have h1:=H.2 j (ready_mono hj iz);obtain⟨vw,oj,qH,aD⟩:=mem_ready.1 hj;have BV:∀e∈oj.after,Region.binds md e=true->e.on≠i:=λe he hb heq=>by have h1:=aD e he hb;rw[heq,getD_both nY]at h1;cases h1
   have h2:=Wt qH (oP j oj qH iz vw BV) (λcs b=>cE i oi cs b hi) (λcs b=>cE j oj cs b qH) hQ hy h1;have qQ:∀k ok,ops[k]?=some ok->k≠i->(listed.setIfInBounds j true).getD k true=false->
     (∀e∈ok.after,Region.binds md e=true->e.on≠i)->oi.apart ops ok=true:=λk ok hk B5 vv oK=>by
    refine oP k ok hk B5 ?_ oK
    by_cases fx:j=k
    ·subst fx;exact vw
    ·rw[getD_set_ne true fx]at vv;exact vv
   refine wpOp_mono (λa' w' h3=>⟨h3.2.1,?_⟩) h2;refine ih (listed.setIfInBounds j true) a' w' (inv.set hj EL) qQ (ready_mono hr (kC iz)) h3.1 (h3.2.1 EL) ?_;rw[Array.setIfInBounds_comm _ _ iz];exact h3.2.2
theorem SY {n:Nat} {C:World->Prop}:∀(l:List Oper) (k:Nat) (listed:Array Bool) (a:Act) (w:World),n<=k->(∀j,l[j]?=ops[k+j]?)->
  Region.seqB md ops l.length k listed=true->wpList P ops Q l a w->mR P md ops Q n C l.length listed a w
 | [],_,_,_,_,_,_,hB,h=>⟨by simpa[Region.seqB] using hB,h⟩
 | o::l,k,listed,a,w,hk,hl,hB,h=>by
  have h0:ops[k]?=some o:=by simpa using (hl 0).symm
  simp only[bU,Region.seqB,lQ,decide_eq_true_eq]at hB;refine⟨λh1=>(by rw[hB.1]at h1;cases h1),λi hi=>?_⟩;rw[hB.1]at hi;have bX:i=k:=by simpa using hi
  subst bX;have hw:wpOp P ops Q i (wpList P ops Q l) a w:=by unfold wpOp;simp only[h0];exact h
  exact wpOp_mono (λa' w' h'=>⟨λbg=>by omega,SY l (i+1) _ a' w' (by omega) (λj=>by have:=hl (j+1);simpa[oW,Hg 1 j] using this) hB.2 h'⟩) hw
def ko (P:Program) (ops:Array Oper) (S:LN) (Q:Exit->Act->World->Prop) (tail:List Oper):List (Bool×Oper)->Act->World->Prop
 | [],a,w=>wpList P ops Q tail a w
 | (false,o)::rest,a,w=>if Region.wanted o (yielded ops a.tmps) then o.quiet P a (fO S w) (λa'=>ko P ops S Q tail rest a' w) else ko P ops S Q tail rest (a.put o.dst undef) w
 | (true,o)::rest,a,w=>if Region.wanted o (yielded ops a.tmps) then o.wp P a w (λa' w'=>Fr S w w'/\ko P ops S Q tail rest a' w') Q else ko P ops S Q tail rest (a.put o.dst undef) w
def zo (md:Region.Mode) (ops:Array Oper) (n:Nat):List (Bool×Nat)->Array Bool->Bool
 | [],listed=>Region.seqB md ops (ops.size-n) n listed
 | (e,i)::rest,listed=>decide (i<n)&&(match e with
   | true=>decide (Region.ready md ops listed=[i])
   | false=>(Region.ready md ops listed).contains i&&Region.free md ops listed i&&(match ops[i]? with|some o=>jO o.op|none=>false))&&zo md ops n rest (listed.setIfInBounds i true)
def tC (md:Region.Mode) (ops:Array Oper) (n:Nat) (order:List (Bool×Nat)):Bool:=
 Region.noSelect ops&&(decide (n=ops.size)||(decide (n<ops.size)&&Region.sinkB md ops n&&Region.chainB md ops n))&&decide (order.length+(ops.size-n)=ops.size)&&zo md ops n order (Array.replicate ops.size false)
theorem Ng {n:Nat} {S:LN} {l:List Oper} (hl:ops=l.toArray) (cE:Region.noSelect ops=true) (hQ:∀c a d v w,Q (.panic c) (Act.put a d v) w->Q (.panic c) a w)
  (hT:∀i,i<n->∀listed,HeadInv md ops n listed->listed.getD i true=false->∀t,n<=t->t∉Region.ready md ops listed) :
  ∀(order:List (Bool×Nat)) (listed:Array Bool) (a:Act) (w:World),HeadInv md ops n listed->zo md ops n order listed=true->
   ko P ops S Q (l.drop n) (order.map λx=>(x.1,l.getD x.2 default)) a w->mR P md ops Q n (fO S w) (order.length+(ops.size-n)) listed a w
 | [],listed,a,w,_,hB,h=>by
  have hlen:(l.drop n).length=ops.size-n:=by rw[hl];simp
  have:=SY (P:=P) (Q:=Q) (md:=md) (ops:=ops) (n:=n) (C:=fO S w) (l.drop n) n listed a w (ay _) (λj=>by rw[hl];simp[Ai]) (by rw[hlen];exact hB) h;simpa[hlen] using this
 | (e,i)::rest,listed,a,w,inv,hB,h=>by
  simp only[zo,lQ,decide_eq_true_eq]at hB;obtain⟨⟨dP,he⟩,bu⟩:=hB;have hlen:((e,i)::rest).length+(ops.size-n)=rest.length+(ops.size-n)+1:=by simp;omega
  rw[hlen];cases e with
  | false=>
   simp only[lQ]at he;obtain⟨⟨hr,hf⟩,hk⟩:=he;have eS:i∈Region.ready md ops listed:=by simpa using hr
   obtain⟨_,oi,dO,_⟩:=mem_ready.1 eS;rw[dO]at hk;have hd:l.getD i default=oi:=by rw[hl]at dO;simp at dO;simp[List.getD,dO]
   simp only[gX,hd,ko]at h;have hC:fO S w w:=fO.of (Fr.refl _ _);by_cases hw:Region.wanted oi (yielded ops a.tmps)=true
   ·rw[if_pos hw]at h;obtain⟨v,h1,h2⟩:=h;have hy:QY P ops (fO S w) oi v a:=.inl ⟨hw,λu hu=>NR hk (h1 u hu)⟩;exact SJ dO (De cE) hQ dP (hT i dP) _ listed a w inv (C7 dO hf) eS hy hC (Ng hl cE hQ hT rest _ _ w (inv.set eS dP) bu h2)
   ·rw[if_neg hw]at h;have hy:QY P ops (fO S w) oi undef a:=.inr ⟨by simpa using hw,rfl⟩;exact SJ dO (De cE) hQ dP (hT i dP) _ listed a w inv (C7 dO hf) eS hy hC (Ng hl cE hQ hT rest _ _ w (inv.set eS dP) bu h)
  | true=>
   simp only[decide_eq_true_eq]at he;have eS:i∈Region.ready md ops listed:=by rw[he];simp
   obtain⟨_,oi,dO,_⟩:=mem_ready.1 eS;have hd:l.getD i default=oi:=by rw[hl]at dO;simp at dO;simp[List.getD,dO]
   simp only[gX,hd,ko]at h;refine⟨λh0=>(by rw[h0]at eS;cases eS),λj hj=>?_⟩;rw[he]at hj;have iz:j=i:=by simpa using hj
   subst iz;unfold wpOp;simp only[dO];by_cases hw:Region.wanted oi (yielded ops a.tmps)=true
   ·rw[if_pos hw]at h;rw[if_pos hw];left;exact Oper.wp_mono (λa' w' h'=>⟨λ_=>fO.of h'.1,Sx (fO.sub h'.1) _ _ _ _ (Ng hl cE hQ hT rest _ a' w' (inv.set eS dP) bu h'.2)⟩) h
   ·rw[if_neg hw]at h;rw[if_neg hw];exact⟨λ_=>fO.of (Fr.refl _ _),Ng hl cE hQ hT rest _ _ w (inv.set eS dP) bu h⟩
theorem j4 {id:Nat} {a:Act} {w:World} {l:List Oper} (n:Nat) (order:List (Bool×Nat)) (S:LN) (hm:P.follows .mixedOrders=true) (hB:tC .any l.toArray n order=true)
  (hQ:∀c a d v w,Q (.panic c) (Act.put a d v) w->Q (.panic c) a w)
  (h:ko P l.toArray S Q (l.drop n) (order.map λx=>(x.1,l.getD x.2 default)) a w.drew):(Code.region id l.toArray true).wp P Q a w:=by
 simp only[tC,lQ,decide_eq_true_eq,Bool.or_eq_true]at hB;obtain⟨⟨⟨cE,hn⟩,hlen⟩,xt⟩:=hB;have Bz:HeadInv .any l.toArray n (Array.replicate l.toArray.size false):=
  ⟨by simp,λj oj _ hl=>(by rw[getD_replicate_false]at hl;cases hl),λt _ ht=>getD_in (by simpa using ht) (getD_replicate_false _ _)⟩
 have hT:∀i,i<n->∀listed,HeadInv .any l.toArray n listed->listed.getD i true=false->∀t,n<=t->t∉Region.ready .any l.toArray listed:=by
  intro i hi listed inv nY t ht hr;rcases hn with hn|⟨⟨hn,hs⟩,hc⟩
  ·obtain⟨_,o,ho,_⟩:=mem_ready.1 hr;have:=(IC.1 ho).1;omega
  ·exact tail_waits hs hc hn inv _ i rfl hi nY t ht hr
 refine wp_region_any hm (SX (n:=n) (C:=fO S w.drew) _ _ _ _ ?_);have:=Ng (P:=P) (Q:=Q) (md:=.any) (n:=n) (S:=S) rfl cE hQ hT order _ a w.drew Bz xt h;rw[hlen]at this;exact this
theorem dT {S:LN} {tail:List Oper} {items:List (Bool×Oper)} {a:Act} {w:World} (k:Nat) (h0:((items.take k).all λx=>!x.1)=true)
  (h:wpQuiet P ops (fO S w) (λa'=>ko P ops S Q tail (items.drop k) a' w) ((items.take k).map (·.2)) a):ko P ops S Q tail items a w:=by
 induction k generalizing items a with
 | zero=>exact h
 | succ k ih=>
  cases items with
  | nil=>exact h
  | cons x rest=>
   obtain⟨b,o⟩:=x;simp only[qs,List.all_cons,lQ,Bool.not_eq_true']at h0;obtain⟨rfl,h0⟩:=h0;simp only[qs,gX,wO,wpQuiet]at h;unfold ko;by_cases hw:Region.wanted o (yielded ops a.tmps)=true
   ·rw[if_pos hw]at h ⊢;obtain⟨v,h1,h2⟩:=h;exact⟨v,h1,ih h0 h2⟩
   ·rw[if_neg hw]at h ⊢;exact ih h0 h
theorem eT {S:LN} {tail:List Oper} {rest:List (Bool×Oper)} {o:Oper} {a:Act} {w:World} (hw:Region.wanted o (yielded ops a.tmps)=true)
  (h:∀K:Act->World->Prop,Go.RowKit.Hid (∀a' w',Fr S w w'->ko P ops S Q tail rest a' w'->K a' w')->o.wp P a w K Q):ko P ops S Q tail ((true,o)::rest) a w:=by
 unfold ko;rw[if_pos hw];exact h _ λ_ _ h1 h2=>⟨h1,h2⟩
theorem Nf {S:LN} {tail:List Oper} {rest:List (Bool×Oper)} {o:Oper} {a:Act} {w:World} (hw:Region.wanted o (yielded ops a.tmps)=false)
  (h:ko P ops S Q tail rest (a.put o.dst undef) w):ko P ops S Q tail ((true,o)::rest) a w:=by
 unfold ko;rw[if_neg (by rw[hw];exact Bool.false_ne_true)];exact h
theorem ic {S:LN} {tail:List Oper} {a:Act} {w:World} (h:wpList P ops Q tail a w):ko P ops S Q tail [] a w:=h
end
theorem qlq {P:Program} (S:LN) (w:World) {src dst e:TypeId} (hs:P.underlying src=some (.slice e)) (he:P.underlying e=some (.int .u8)) (hd:P.underlying dst=some .string)
  {ao:OA} {n:Nat} {bs:LB} (hn:bs.length=n) (hcs:Cs w ao (bs.map bv)) (hb:∀x∈af ao,x∉S) :
  ∀x cap,(convert src dst (.slice ao n cap)).run P (sup S w x) = .ok (.string (str bs)) (sup S w x):=
 λx cap=>vU (sup S w x) hs he hd hn (hcs.fr (dY S w x) hb) cap
end lib
namespace pk
open Go Go.RowKit lib bm
theorem aq:az Tryz.prog 23 5 (.int .u8 0) 1 1:=az.of Tryz.underlying23 (by kernel_rfl) rfl (by decide)
theorem j3 (bs:LB):∀u∈bs.map bv,u.oneCell'=true:=by intro u hu;obtain⟨b,_,rfl⟩:=jo.1 hu;rfl
structure Wr (w wr:World) (a:OA) (c:Nat) (out:LB):Prop where
 own:wr.ownsRow 0 5 1 (.slice a out.length c) out.length (out.map bv)
 fr:Fr [] w wr
 new:∀x∈af a,w.heap.size<=x
theorem V3 (w w':World) (f:Fr [] w w'):Wr w w' none 0 []:=⟨wM _ _ _ _,f,by simp[af]⟩
theorem Wr.step {w wr w1 w2:World} {a a2:OA} {c c2:Nat} {out:LB} {x:UInt8} (h:Wr w wr a c out) (f:Fr [] wr w1) (A:aV w1 w2 5 1 (af a) a2 (out.length+1) c2 (out.map bv++[bv x])):Wr w w2 a2 c2 (out++[x]):=by
 refine⟨by rw[aA,gF];exact A.own,(h.fr.trans f).step A.fr λy hy=>.inr (h.new y hy),λy hy=>?_⟩;rcases A.at_ y hy with h1|h1
 ·exact h.new y h1
 ·have:=(h.fr.trans f).size;omega
theorem qzm (kind size:Nat) (hk:kind<=7):bits .or .u8 (bits .and .i64 (kind:Int) 7%256*16%256) (bits .and .i64 (size:Int) 15%256)=((kind%8*16+size%16:Nat):Int):=by
 rw[show bits .and .i64 (kind:Int) 7=(kind:Int)%8 from VP _ 3 (by decide),show bits .and .i64 (size:Int) 15=(size:Int)%16 from VP _ 4 (by decide)];have h:∀(x:Fin 8) (y:Fin 16),bits .or .u8 (((x.1:Nat):Int)*16) ((y.1:Nat):Int)=((x.1*16+y.1:Nat):Int):=by decide +kernel
 have e:=h ⟨kind%8,by omega⟩ ⟨size%16,by omega⟩;simp only at e;rw[show (kind:Int)%8%256*16%256=((kind%8:Nat):Int)*16 by omega,show (size:Int)%16%256=((size%16:Nat):Int) by omega,e]
theorem qy4 (c:Nat) (h:c<=127):bits .or .u8 (c:Int) 128=(((UInt8.ofNat (c+128)).toNat:Nat):Int):=by
 have h2:∀x:Fin 128,bits .or .u8 (x.1:Int) 128=((x.1+128:Nat):Int):=by decide +kernel
 have e:=h2 ⟨c,by omega⟩;simp only at e;rw[e,x7 (by omega)]
theorem IU (n:Nat):bits .and .i64 (n:Int) 127=((n%128:Nat):Int):=by rw[show bits .and .i64 (n:Int) 127=(n:Int)%128 from VP _ 7 (by decide)];omega
theorem zdr (f c:Nat):qU f c 0=[UInt8.ofNat c]:=by cases f<;>simp[qU]
theorem zds {f c n:Nat} (h:0<n) (hf:n<=f):qU f c n=UInt8.ofNat (c+128)::qU f (n%128) (n/128):=by
 cases f with
 | zero=>omega
 | succ f=>rw[qU,if_neg (by omega),zdt (f:=f) (g:=f+1) (by omega) (by omega)]
theorem Ik (kind size:Nat) (w:World) (hk:kind<=7) (hs:size<=9007199254740992):Calls Tryz.prog 10 #[.int .i64 kind,.int .i64 size] w (aB w (hd kind size)):=by
 have hl:=qzm kind size hk;obtain⟨c0,bZ⟩:∃c,c=kind%8*16+size%16:=⟨_,rfl⟩;obtain⟨bs,mD⟩:=ai (hd kind size);have kT:bs=qU size c0 (size/16):=by rw[mD,bZ];rfl
 have bQ:bs.length<=9:=by rw[kT];exact ze9 (k:=8) (by omega) (by omega)
 have Qe:c0<=127:=by omega
 rw[<-bZ]at hl;rw[<-mD];have HB:=ak kT bQ;clear kT bQ bZ mD;go_enter Tryz.func10,Tryz.ntmps10;go_upto_region 2 with (refine FX (size:Int) rfl _ _ _ rfl (size:Int) 0 rfl rfl (by split<;>omega) ?_);go_upto_block 0 with fail;go_cut [5,6] from 17 to 30 (λs5 s6 wz=>∃c a cap out,s5 = .int .u8 ((c:Nat):Int)/\s6 = .slice a out.length cap/\c<=127/\Wr w wz a cap out/\bs=out++[UInt8.ofNat c])
 case first=>
  go_wp2;go_loopg [1,5,6] size (λk s1 s5 s6 wr=>∃n c a cap out,s1 = .int .i64 (n:Nat)/\s5 = .int .u8 ((c:Nat):Int)/\s6 = .slice a out.length cap/\n<=k/\n<=size/\c<=127/\Wr w wr a cap out/\bs=out++qU size c n);case atStart=>exact⟨size/16,c0,none,0,[],by go_num,rfl,rfl,by omega,by omega,Qe,V3 w w (Fr.refl _ _),HB.o0⟩
  case round=>
   obtain⟨n,c,a,cap,out,rfl,rfl,rfl,yz,YE,hc,h,aD⟩:=hrel;have H:=ak h aD;have iw:out.length<=9:=by have:=congrArg List.length aD;rw[aA]at this;have:=HB.l1;omega
   clear h aD;by_cases h0:0<n
   ·have ho:=qy4 c hc;have h7:=IU n;obtain⟨x,hx⟩:=ai (UInt8.ofNat (c+128));rw[<-hx]at ho;obtain⟨S,hS⟩:=ai (af a);have HX:=ak hx hS;have f0:Fr [] wr (wr.alloc (.cells #[.int .u8 (x.toNat:Nat)] 5)):=(Fr.refl [] wr).alloc _;have cT:=dr H.out.1.own f0 (by simp);have cA:Cs (wr.alloc (.cells #[.int .u8 (x.toNat:Nat)] 5)) (some ⟨wr.heap.size,0,none⟩) [bv x]:=nM _ _ _ 5 (bC wr _);have HA:=aw cT cA f0;clear cT cA f0 hx hS;go_wp2_with (refine gM aq rfl _ _ rfl (.slice a out.length cap) out.length (out.map bv) S rfl (by rw[dD,HX.l1]) HA.o0 (some ⟨wr.heap.size,0,none⟩) 1 1 [bv x] rfl (by decide) (by simp) HA.o1 (by rfl) (j3 [x]) (by omega) (by unfold maxLen;omega) ?_;intro a2 c2 w2 A1;have xQ:=ah A1;clear A1);go_roundg (n/128);case measure=>omega
    case rel=>have A1:=xQ.out;rw[HX.l1]at A1;refine⟨n/128,n%128,a2,c2,out++[x],by go_num,by go_num,by rw[aA];rfl,ay _,by omega,by omega,H.out.1.step HA.l2 A1,?_⟩;rw[H.out.2,zds h0 YE,HX.o0,eE];rfl
   ·go_wp2;go_meet;obtain rfl:n=0:=by omega
    exact⟨c,a,cap,out,rfl,rfl,hc,H.out.1,by rw[H.out.2,zdr]⟩
 case rest=>
 obtain⟨c,a,cap,out,rfl,rfl,hc,h,aD⟩:=hcut;have H:=ah h;have iw:out.length+1=bs.length:=by rw[aD];simp
 have YC:out.length<=9:=by have:=HB.l1;omega
 have iC:=ak aD iw;clear h aD iw;obtain⟨x,hx⟩:=ai (UInt8.ofNat c);have kR:[bv x]=[.int .u8 (c:Int)]:=by unfold bv;rw[hx,x7 (by omega)]
 obtain⟨S,hS⟩:=ai (af a);have HX:=ak hx hS;have f0:Fr [] wc (wc.alloc (.cells #[.int .u8 (c:Int)] 5)):=(Fr.refl [] wc).alloc _;have cT:=dr H.out.own f0 (by simp);have cA:Cs (wc.alloc (.cells #[.int .u8 (c:Int)] 5)) (some ⟨wc.heap.size,0,none⟩) [bv x]:=by rw[kR];exact nM _ _ _ 5 (bC wc _)
 have HA:=aw cT cA f0;clear cT cA f0 hx hS kR;go_wp2_with (refine gM aq rfl _ _ rfl (.slice a out.length cap) out.length (out.map bv) S rfl (by rw[dD,HX.l1]) HA.o0 (some ⟨wc.heap.size,0,none⟩) 1 1 [bv x] rfl (by decide) (by simp) HA.o1 (by rfl) (j3 [x]) (by omega) (by unfold maxLen;omega) ?_;intro a2 c2 w2 A1;have cZ:=A1.le;have nT:=A1.max;have xQ:=ah A1;clear A1);go_ret;have A1:=xQ.out;rw[HX.l1]at A1;have h4:=H.out.step HA.l2 A1;rw[HX.o0,<-iC.o0]at h4;obtain⟨r1,_⟩:=wK h4.own;rw[iC.l1];exact⟨a2,rfl,⟨r1.cs,ay _,ck r1.le r1.max,λe=>by have:=r1.nil e;have:=r1.le;omega⟩,λy hy=>⟨h4.new y hy,rr h4.own (qi hy)⟩,h4.fr⟩
def rU (k:Nat):UInt8:=if k<10 then UInt8.ofNat (48+k) else UInt8.ofNat (87+k)
def xL:ByteArray:=⟨#[48,49,50,51,52,53,54,55,56,57,97,98,99,100,101,102]⟩
theorem zap:∀k:Fin 16,∀h,xL[k.1]'h=rU k.1:=by decide
theorem SB (k:Nat) (hk:k<16) (w:World):(Instr.index 9 (.string ⟨#[48,49,50,51,52,53,54,55,56,57,97,98,99,100,101,102]⟩) (.int .u8 k)).run Tryz.prog w = .ok (.int .u8 ((rU k).toNat:Nat)) w:=by
 have hs:xL.size=16:=by decide
 have e:=run_index_string (P:=Tryz.prog) w 9 xL .u8 k Tryz.underlying9;rw[dif_pos ⟨by omega,by rw[hs];omega⟩]at e;have h2:=zap ⟨k,hk⟩ (by rw[hs];exact hk);simp only[C9]at e;rw[h2]at e;exact e
def rV (b:UInt8):List UInt8:=[rU (b.toNat/16),rU (b.toNat%16)]
def gH (bs:LB):List UInt8:=bs.flatMap rV
theorem eC (bs:LB):(gH bs).length=2*bs.length:=by
 induction bs with
 | nil=>rfl
 | cons b t ih=>unfold gH at *;rw[vX,aA,ih];simp[rV];omega
theorem qr1 (bs:LB) (b:UInt8):gH (bs++[b])=gH bs++rV b:=by unfold gH;rw[Bm];simp
theorem zdc (n:Nat) (hn:n<=100000000):∃A:Array Value,A.size=n/\∀w:World,(Instr.makeSlice 23 (.int .i64 0) (.int .i64 (n:Nat))).run Tryz.prog w = .ok (.slice (some ⟨w.heap.size,0,none⟩) 0 n) (w.alloc (.cells A 5)):=by obtain⟨hu,⟨i,hi,hz,hs,hb⟩,_,_⟩:=aq;refine⟨madeCells (Value.int .u8 0).cells n,size_madeCells _ _,λw=>?_⟩;have:=run_make (P:=Tryz.prog) w 23 5 i (.int .u8 0) Tryz.underlying23 hi hz .i64 .i64 0 (n:Nat) (Int.le_refl _) (by omega) (by rw[hb];omega) (by omega);rw[hs,C9,pI]at this;exact this
theorem qo6 (b:UInt8):(rV b).map bv=[.int .u8 ((rU (b.toNat/16)).toNat:Nat),.int .u8 ((rU (b.toNat%16)).toNat:Nat)]:=rfl
theorem Wr.step2 {w wr w1 w2:World} {a a2:OA} {c c2:Nat} {out xs:LB} (h:Wr w wr a c out) (f:Fr [] wr w1) (A:aV w1 w2 5 1 (af a) a2 (out.length+xs.length) c2 (out.map bv++xs.map bv)):Wr w w2 a2 c2 (out++xs):=by
 refine⟨by rw[aA,gF];exact A.own,(h.fr.trans f).step A.fr λy hy=>.inr (h.new y hy),λy hy=>?_⟩;rcases A.at_ y hy with h1|h1
 ·exact h.new y h1
 ·have:=(h.fr.trans f).size;omega
theorem CM (b:UInt8):bits .and .u8 ((b.toNat:Nat):Int) 15=((b.toNat%16:Nat):Int):=by
 have h:∀x:Fin 256,bits .and .u8 (x.1:Int) 15=((x.1%16:Nat):Int):=by decide +kernel
 exact h ⟨b.toNat,iL b⟩
theorem R0 (ao:OA) (cap:Nat) (bs:LB) (w:World) (h:lib.Rd w ao cap bs) (hlen:bs.length<=10000000) :
  Calls Tryz.prog 46 #[.slice ao bs.length cap] w λe w'=>e = .returned (.string (str (gH bs)))/\Fr [] w w':=by
 obtain⟨L,hL⟩:=ai bs.length;obtain⟨A,dW,lT⟩:=zdc (2*L) (by omega);obtain⟨C,hC⟩:=ai (2*L);have ZO:L<=10000000:=by omega
 rw[<-hC]at lT dW;rw[show ((C:Nat):Int)=2*(L:Int) by omega]at lT;have HI:=aw h hL dW;rw[<-hL];clear h hL dW hlen;have HC:=ah hC;clear hC;go_enter Tryz.func46,Tryz.ntmps46;go_upto_region 2 with fail;have o0:Wr w (w.alloc (.cells A 5)) (some ⟨w.heap.size,0,none⟩) C []:=⟨⟨rfl,.inr ⟨w.heap.size,C,A,rfl,ep _,bC _ _,ep _,by have:=HC.out;unfold maxLen;omega,by rw[HI.out.2.2,pI],by simp⟩⟩,(Fr.refl _ _).alloc _,by simp[af]⟩;obtain⟨w0,hw0⟩:=ai (w.alloc (.cells A 5));rw[<-hw0]at o0 ⊢;have H0:=ah o0;clear o0 hw0 lT;go_wp2;go_loopg [3,12] L (λk s3 s12 wr=>∃i a c out,s12 = .int .i64 (i:Nat)/\s3 = .slice a out.length c/\i+k=L/\Wr w wr a c out/\out=gH (bs.take i));case atStart=>exact⟨0,_,C,[],rfl,rfl,by omega,H0.out,rfl⟩
 case round=>
  obtain⟨i,a,c,out,rfl,rfl,bX,h,cC⟩:=hrel;have iw:out.length=2*i:=by rw[cC,eC,dU,<-HI.out.2.1];omega
  have H:=aw h cC iw;have zB:out.length<=20000000:=by omega
  clear h cC iw;by_cases hi:i<L
  ·obtain⟨k,rfl⟩:∃k,gk=k+1:=⟨gk-1,by omega⟩;have eO:i<bs.length:=by rw[<-HI.out.2.1];exact hi
   obtain⟨g,o,rfl,hc⟩:=(HI.out.1.cs.fr H.out.1.fr (by simp)).at (by rw[bW];omega);have rW:=hc i (bv bs[i]) (by rw[iM,br eO];rfl);unfold bv at rW;have iD:=SB (bs[i].toNat/16) (by have:=iL bs[i];omega);have eQ:=SB (bs[i].toNat%16) (by omega);have e1:=CM bs[i];have sM:=iL bs[i];have fU:=qo6 bs[i];have HT:=ah (show bs.take (i+1)=bs.take i++[bs[i]] from Ef eO);obtain⟨b,hb⟩:=ai (bs[i]);rw[<-hb]at rW iD eQ e1 sM fU HT;have DL:=ah fU;clear hc eO hb fU;have e0:((b.toNat:Nat):Int)/16=((b.toNat/16:Nat):Int):=by omega
   go_upto_region 5 with fail;generalize (rU (b.toNat/16)).toNat=h0 at *;generalize (rU (b.toNat%16)).toNat=h1 at *;generalize b.toNat%16=b1 at *;generalize b.toNat/16=b0 at *;obtain⟨S,hS⟩:=ai (af a);refine j4 9 [(false,0),(false,1),(false,2),(false,3),(false,4),(false,5),(false,6),(true,7),(true,8)] S (by kernel_rfl) (by kernel_rfl) (λ_ _ d _ _ h=>by cases d<;>exact h) ?_;simp only[jm];refine dT 7 rfl ?_;simp only[bD];have HS:=ah hS;clear hS;repeat (go_big_quiet_step (fail))
   refine wpQuiet_nil ?_;clear e0 e1 iD eQ;refine eT rfl ?_;intro X hX;go_wp2;refine hX.out _ _ ((Fr.refl _ wr.drew).alloc _) ?_;clear hX X;have dQ:Fr [] wr (wr.drew.alloc (.cells #[.int .u8 h0,.int .u8 h1] 5)):=(Fr.av [] wr).alloc _;have cT:=dr H.out.1.own dQ (by simp);have cA:Cs (wr.drew.alloc (.cells #[.int .u8 h0,.int .u8 h1] 5)) (some ⟨wr.drew.heap.size,0,none⟩) ((rV b).map bv):=by rw[DL.out];exact .inr ⟨wr.drew.heap.size,0,rfl,λj u hj=>by rw[cell_of (bC wr.drew _)];simpa using hj⟩
   refine eT rfl ?_;intro X hX;refine uj aq _ _ rfl (.slice a out.length c) out.length (out.map bv) S rfl (by rw[dD,HS.out]) cT (some ⟨wr.drew.heap.size,0,none⟩) 2 2 ((rV b).map bv) rfl (by decide) (by simp) cA (by rfl) (j3 _) (by omega) (by unfold maxLen;omega) ?_;intro a2 c2 w2 A1;refine hX.out _ _ A1.fr ?_;clear hX X;refine ic ?_;have HA:=ak dQ A1;clear dQ A1 cT cA;go_wp2;go_roundg k;case measure=>omega
   case rel=>have A1:=HA.l1;rw[HS.out]at A1;exact⟨i+1,a2,c2,out++rV b,by go_num,by rw[aA];rfl,by omega,H.out.1.step2 HA.o0 A1,by rw[HT.out,qr1,<-H.out.2.1]⟩
  ·obtain rfl:i=L:=by omega
   obtain⟨r1,_⟩:=wK H.out.1.own;have cv:=vU wr Tryz.underlying23 Tryz.underlying5 Tryz.underlying9 (rfl:out.length=out.length) r1.cs;have HO:=ah (show out=gH bs by rw[H.out.2.1,HI.out.2.1,Ie]);clear r1;go_wp2;go_ret;exact⟨by rw[<-HO.out];rfl,H.out.1.fr⟩
end pk
namespace crc
open Go Go.RowKit lib
def jH (bs:LB):Nat:=bs.foldl (λn b=>256*n+b.toNat) 0
theorem FA (bs:LB):jH bs<256^bs.length:=by
 have:∀(bs:LB) (n k:Nat),n<256^k->bs.foldl (λn b=>256*n+b.toNat) n<256^(k+bs.length):=by
  intro bs;induction bs with
  | nil=>intro n k h;exact h
  | cons b t ih=>intro n k h;rw[DW,bU,show k+(t.length+1)=(k+1)+t.length by omega];refine ih _ _ ?_;have:=iL b;rw[pH];omega
 have h:=this bs 0 0 (by decide);rwa [ft]at h
end crc
namespace sha
open Go Go.RowKit lib
def Hp (x:Int) (n:Nat):Int:=bits .or .u32 (x*2^n%4294967296) (x/2^(32-n))
def cW (a b:Int):Int:=(a+b)%4294967296
def uW (a:Int):Int:=bits .xor .u32 IntKind.u32.max a
def ch (b c d:Int):Int:=bits .or .u32 (bits .and .u32 b c) (bits .and .u32 (uW b) d)
def par (b c d:Int):Int:=bits .xor .u32 (bits .xor .u32 b c) d
def LF (b c d:Int):Int:=bits .or .u32 (bits .or .u32 (bits .and .u32 b c) (bits .and .u32 b d)) (bits .and .u32 c d)
def tV (q:Nat) (b c d:Int):Int:=match q with
 | 0=>ch b c d
 | 1=>par b c d
 | 2=>LF b c d
 | _=>par b c d
def tD (q:Nat):Int:=match q with
 | 0=>1518500249
 | 1=>1859775393
 | 2=>2400959708
 | _=>3395469782
def word (p:LB) (i:Nat):Int:=(((p[i]?.getD 0).toNat*16777216+(p[i+1]?.getD 0).toNat*65536+(p[i+2]?.getD 0).toNat*256+(p[i+3]?.getD 0).toNat:Nat):Int)
def sched (p:LB):Nat->List Int
 | 0=>[]
 | t+1=>sched p t++[if t<16 then word p (4*t) else Hp (bits .xor .u32 (bits .xor .u32 (bits .xor .u32 ((sched p t)[t-3]?.getD 0) ((sched p t)[t-8]?.getD 0)) ((sched p t)[t-14]?.getD 0)) ((sched p t)[t-16]?.getD 0)) 1]
theorem Lu (p:LB):∀t,(sched p t).length=t
 | 0=>rfl
 | t+1=>by rw[sched,aA,Lu p t];rfl
theorem WR (p:LB) (i:Nat):∀t,i<t->(sched p t)[i]?=(sched p (i+1))[i]?
 | 0,h=>by omega
 | t+1,h=>by
  by_cases e:i=t
  ·rw[e]
  ·rw[<-WR p i t (by omega)];conv=>lhs;rw[sched]
   rw[rO (by rw[Lu];omega)]
structure H5 where
 a:Int
 b:Int
 c:Int
 d:Int
 e:Int
def round (p:LB) (t:Nat) (s:H5):H5:=
 ⟨cW (cW (cW (cW (Hp s.a 5) (tV (t/20) s.b s.c s.d)) s.e) (tD (t/20))) ((sched p 80)[t]?.getD 0),s.a,Hp s.b 30,s.c,s.d⟩
def rounds (p:LB):Nat->H5->H5
 | 0,s=>s
 | t+1,s=>round p t (rounds p t s)
def kr (h:H5) (p:LB):H5:=
 ⟨cW h.a (rounds p 80 h).a,cW h.b (rounds p 80 h).b,cW h.c (rounds p 80 h).c,cW h.d (rounds p 80 h).d,cW h.e (rounds p 80 h).e⟩
def H5.vals (h:H5):Array Value:=#[.int .u32 h.a,.int .u32 h.b,.int .u32 h.c,.int .u32 h.d,.int .u32 h.e]
def h0:H5:=⟨1732584193,4023233417,2562383102,271733878,3285377520⟩
def blocks:Nat->H5->List UInt8->H5
 | 0,h,_=>h
 | f+1,h,p=>if 64<=p.length then blocks f (kr h p) (p.drop 64) else h
end sha
namespace sums
open Go Go.RowKit lib bm
def fX (x:Nat):List UInt8:=[UInt8.ofNat (x/16777216),UInt8.ofNat (x/65536),UInt8.ofNat (x/256),UInt8.ofNat x]
theorem wJ (x:Nat):(fX x).length=4:=rfl
theorem Vm (x:Nat) (h:x<4294967296):(fX x).map bv=[.int .u8 ((x:Int)/16777216),.int .u8 ((x:Int)/65536%256),.int .u8 ((x:Int)/256%256),.int .u8 ((x:Int)%256)]:=by simp only[fX,gX,qq,bv,zk];refine FE.2 ⟨int_eq (by omega),FE.2 ⟨int_eq (by omega),FE.2 ⟨int_eq (by omega),FE.2 ⟨int_eq (by omega),rfl⟩⟩⟩⟩
theorem zbh (x:Nat) (h:x<4294967296) (b:LB) (hb:b=fX x):(b[0]?.getD 0).toNat*16777216+(b[1]?.getD 0).toNat*65536+(b[2]?.getD 0).toNat*256+(b[3]?.getD 0).toNat=x:=by subst hb;show (UInt8.ofNat (x/16777216)).toNat*16777216+(UInt8.ofNat (x/65536)).toNat*65536+(UInt8.ofNat (x/256)).toNat*256+(UInt8.ofNat x).toNat=x;simp only[zk];omega
def j1 (w:World) (ao:OA) (bs:LB) (x:Nat) (e:Ending) (w':World):Prop:=
 ∃a c,e = .returned (.slice a (bs.length+4) c)/\eU w w' 5 ao a c ((bs++fX x).map bv)
theorem Nu (ao:OA) (cap:Nat) (bs:LB) (x:Nat) (w:World) (hx:x<4294967296) (h:ej w 5 ao cap (bs.map bv)) (hm:bs.length<=140737488351232) :
  Calls Tryz.prog 119 #[.slice ao bs.length cap,.int .u32 x] w (j1 w ao bs x):=by
 obtain⟨L,hL⟩:=ai bs.length;obtain⟨o1,o2,o3⟩:=h.shape;rw[bW,<-hL]at o1;rw[<-hL]at hm ⊢;have j8:=Vm x hx;have H:=aw h hL j8;have f1:Fr [] w (w.alloc (.cells #[.int .u8 ((x:Int)/16777216),.int .u8 ((x:Int)/65536%256),.int .u8 ((x:Int)/256%256),.int .u8 ((x:Int)%256)] 5)):=(Fr.refl [] w).alloc _;have HF:=ah f1;clear h hL j8 f1;go_enter Tryz.func119,Tryz.ntmps119;go_wp2_with (refine Bn aq rfl _ _ rfl ao L cap (bs.map bv) rfl (H.o0.fr HF.out (by simp)) (by rw[bW];exact H.o1.symm) (some ⟨w.heap.size,0,none⟩) 4 4 ((fX x).map bv) rfl (by omega) (by simp) (by rw[H.l2];exact Ae w _ _ _) rfl (j3 _) (by omega) (by unfold maxLen;omega) ?_;intro a1 c1 w1 A1;have H1:=ah A1;clear A1);go_ret;unfold j1;rw[<-H.o1,gF];refine⟨a1,c1,rfl,H1.out.own,HF.out.mono (by simp) |>.step H1.out.fr (λy hy=>.inl hy),λy hy=>?_⟩;rcases H1.out.at_ y hy with k|k
 ·exact .inl k
 ·right;rw[fD]at k;omega
theorem y8 (n v k:Nat) (hv:v<2^k) (hk:k<=32) (hn:n<4294967296) (hd:n%2^k=0):bits .or .u32 (n:Int) (v:Int)=((n+v:Nat):Int):=by
 have h1:=CY k 32 hk;rw[NY]at h1;have e:n=n/2^k*2^k:=by have:=KO n (2^k);rw[hd,ie,mf]at this;exact this.symm
 rw[u32_or_nat n v hn (by omega)];conv=>lhs;rw[e,Nat.or_comm,Fy v _ k hv,mf (2^k),<-e,Hg]
theorem qtl (a:OA) (cap:Nat) (y0 y1 y2 y3:UInt8) (w:World) (h:Rd w a cap [y0,y1,y2,y3]) :
  Calls Tryz.prog 111 #[.slice a 4 cap] w λe w'=>e = .returned (.int .u32 (y0.toNat*16777216+y1.toNat*65536+y2.toNat*256+y3.toNat:Nat))/\Fr [] w w':=by
 obtain⟨g,o,rfl,c0⟩:=h.at (i:=0) (by simp);obtain⟨g1,o1,e1,c1⟩:=h.at (i:=1) (by simp);obtain⟨g2,o2,e2,c2⟩:=h.at (i:=2) (by simp);obtain⟨g3,o3,e3,c3⟩:=h.at (i:=3) (by simp);simp only[eJ,ru,and_true]at e1 e2 e3;obtain⟨rfl,rfl⟩:=e1;obtain⟨rfl,rfl⟩:=e2;obtain⟨rfl,rfl⟩:=e3;have hle:=h.le;simp only[bU,kg]at hle;have l0:=iL y0;have l1:=iL y1;have l2:=iL y2;have l3:=iL y3;simp only[ie,List.getElem_cons_zero,List.getElem_cons_succ]at c0 c1 c2 c3;generalize y0.toNat=x0 at *;generalize y1.toNat=x1 at *;generalize y2.toNat=x2 at *;generalize y3.toNat=x3 at *;obtain⟨z1,jr⟩:∃z,z=x0*16777216+x1*65536:=⟨_,rfl⟩;obtain⟨z2,mv⟩:∃z,z=z1+x2*256:=⟨_,rfl⟩;obtain⟨z3,uY⟩:∃z,z=z2+x3:=⟨_,rfl⟩;have r1:bits .or .u32 ((x0:Int)*16777216) ((x1:Int)*65536)=(z1:Int):=by have:=y8 (x0*16777216) (x1*65536) 24 (by omega) (by decide) (by omega) (by omega);rw[<-jr]at this;simpa using this
 have r2:bits .or .u32 (z1:Int) ((x2:Int)*256)=(z2:Int):=by have:=y8 z1 (x2*256) 16 (by omega) (by decide) (by omega) (by omega);rw[<-mv]at this;simpa using this
 have r3:bits .or .u32 (z2:Int) (x3:Int)=(z3:Int):=by have:=y8 z2 x3 8 (by omega) (by decide) (by omega) (by omega);rw[<-uY]at this;exact this
 have HZ:Hid (x0*16777216+x1*65536+x2*256+x3=z3):=ah (by omega);clear jr mv uY h;go_enter Tryz.func111,Tryz.ntmps111;go_wp2;go_quiet (fail);go_wp2;go_ret;exact⟨by rw[HZ.out];rfl,Fr.drewN _ _ _⟩
theorem qo1 (a:OA) (cap x:Nat) (w:World) (hx:x<4294967296) (h:Rd w a cap (fX x)) :
  Calls Tryz.prog 111 #[.slice a 4 cap] w λe w'=>e = .returned (.int .u32 x)/\Fr [] w w':=by
 have h1:=qtl a cap _ _ _ _ w h;have h2:=zbh x hx _ rfl;have e:(UInt8.ofNat (x/16777216)).toNat*16777216+(UInt8.ofNat (x/65536)).toNat*65536+(UInt8.ofNat (x/256)).toNat*256+(UInt8.ofNat x).toNat=x:=h2;rw[e]at h1;exact h1
theorem qx7 (g a b:Nat) (w:World) (h:Ad w g a b):Calls Tryz.prog 96 #[.pointer (some ⟨g,0,none⟩)] w λe w'=>(∃ao c,e = .returned (.slice ao 4 c)/\Rd w' ao c (fX (b*65536+a)))/\Fr [] w w':=by
 obtain⟨C,hC,cV,bZ,ha,hb,fH,vu⟩:=h;have c0:=cell_of hC 0;have c1:=cell_of hC 265;have c2:=cell_of hC 266;rw[bZ]at c0;rw[ha]at c1;rw[hb]at c2;obtain⟨z,hz⟩:=ai (b*65536+a);have r1:bits .or .u32 ((b:Int)*65536) (a:Int)=(z:Int):=by have:=y8 (b*65536) a 16 (by omega) (by decide) (by omega) (by omega);rw[<-hz]at this;simpa using this
 have v7:z<4294967296:=by omega
 rw[<-hz];have HC:=ah hC;clear hz hC cV bZ ha hb;go_enter Tryz.func96,Tryz.ntmps96;go_upto_region 5 with fail;have yB:=lt_of_block HC.out;obtain⟨B,hB⟩:=ai w.heap.size;have TX:g∉[B]:=by simp;omega
 have s1:∀x,(sup [B] w.drew x).cell? ⟨g,265,none⟩=some (.int .u32 a):=λx=>(dY [B] w.drew x).cell (show w.drew.cell? _=_ from c1) TX
 have s2:∀x,(sup [B] w.drew x).cell? ⟨g,266,none⟩=some (.int .u32 b):=λx=>(dY [B] w.drew x).cell (show w.drew.cell? _=_ from c2) TX
 have lT:∀w:World,(Instr.makeSlice 23 (.int .i64 0) (.int .i64 4)).run Tryz.prog w = .ok (.slice (some ⟨w.heap.size,0,none⟩) 0 4) (w.alloc (.cells #[.int .u8 0,.int .u8 0,.int .u8 0,.int .u8 0] 5)):=λ_=>by kernel_rfl
 have yE:∀w,ej w 5 (some ⟨B,0,none⟩) 4 (([]:LB).map bv)->Calls Tryz.prog 119 #[.slice (some ⟨B,0,none⟩) 0 4,.int .u32 z] w (j1 w (some ⟨B,0,none⟩) [] z):=λw h=>Nu (some ⟨B,0,none⟩) 4 [] z w v7 h (by simp)
 unfold j1 at yE;simp only[kg,ft,qj]at yE;have HB:=ak hB yE;clear hB yE c0 c1 c2;refine j4 13 [(false,1),(false,2),(false,3),(false,4),(false,5),(false,6),(false,7),(false,8),(false,9),(false,10),(true,0),(true,11),(false,12)] [B] (by kernel_rfl) (by kernel_rfl) (λ_ _ d _ _ h=>by cases d<;>exact h) ?_;simp only[jm];refine dT 10 rfl ?_;simp only[bD];repeat (go_big_quiet_step (fail))
 refine wpQuiet_nil ?_;refine eT rfl ?_;intro X hX;have ZW:w.drew.heap.size=B:=HB.o0.symm;go_wp2;have f1:Fr [B] w.drew ((w.alloc (.cells #[.int .u8 0,.int .u8 0,.int .u8 0,.int .u8 0] 5)).drew):=(Fr.refl [B] w.drew).alloc (.cells #[.int .u8 0,.int .u8 0,.int .u8 0,.int .u8 0] 5);have aI:ej ((w.alloc (.cells #[.int .u8 0,.int .u8 0,.int .u8 0,.int .u8 0] 5)).drew) 5 (some ⟨B,0,none⟩) 4 (([]:LB).map bv):=.inr ⟨B,0,_,rfl,by rw[HB.o0];exact bC w _,ep _,by decide,ay _,rfl⟩;refine hX.out _ _ f1 ?_;clear hX X s1 s2 lT;generalize (w.alloc (.cells #[.int .u8 0,.int .u8 0,.int .u8 0,.int .u8 0] 5)).drew=w1 at *;have H1:=ak (HB.l1 w1 aI) f1;clear aI f1 ZW;refine eT rfl ?_;intro X hX;go_wp2_with (go_at_call 119;refine H1.o0.mono ?_;rintro e w2 ⟨a2,c2,rfl,A2⟩);refine hX.out _ _ A2.fr ?_;clear hX X;have H2:=ah A2;clear A2;refine dT 1 rfl ?_;simp only[bD];repeat (go_big_quiet_step (fail))
 refine wpQuiet_nil ?_;refine ic ?_;go_wp2;go_ret;have hr:Rd w2 a2 c2 (fX z):=H2.out.own.rd;refine⟨⟨a2,c2,rfl,hr.fr (by first|exact Fr.refl _ _|exact Fr.drewN _ _ _)⟩,?_⟩;have f2:Fr [] w w.drew:=Fr.av [] w;exact ((f2.step H1.l1 (λy hy=>.inr (by simp at hy;rw[hy,HB.o0];exact ay _))).step H2.out.fr (λy hy=>.inr (by simp[af]at hy;rw[hy,HB.o0];exact ay _)))
theorem qsx (a:OA) (cap:Nat) (bs:LB) (w:World) (h:Rd w a cap bs):Calls Tryz.prog 69 #[.int .i64 3,.slice a bs.length cap] w λe w'=>(∃ao c,e = .returned (.slice ao 4 c)/\Rd w' ao c (fX (fV bs)))/\Fr [] w w':=by have H:=ah h;clear h;go_enter Tryz.func69,Tryz.ntmps69;go_upto_region 2 with (go_at_call 106;refine (qud _).mono ?_;rintro e w1 ⟨rfl,A1,f1⟩);have hw:=qsv w.heap.size 1 0 cap a bs w1 A1 (H.out.fr f1) (λhb x hx=>by have:=A7 H.out hb x hx;omega);have H1:=ak hw f1;clear hw f1 A1;go_upto_region 3 with (go_at_call 94;refine H1.o0.mono ?_;rintro e w2 ⟨rfl,f2,A2⟩);have hs:=qx7 _ _ _ w2 A2;have H2:=ak hs f2;clear hs f2 A2;go_wp2_with (go_at_call 96;refine H2.o0.mono ?_;rintro e w3 ⟨⟨a3,c3,rfl,r3⟩,f3⟩);go_ret;exact⟨⟨a3,c3,rfl,r3⟩,(H1.l1.step H2.l1 (λy hy=>.inr (by simp at hy;rw[hy];exact ay _))).trans f3⟩
theorem qsr (a:OA) (cap:Nat) (bs:LB) (w:World) (h:Rd w a cap bs):Calls Tryz.prog 104 #[.slice a bs.length cap] w λe w'=>e = .returned (.int .u32 (fV bs))/\Fr [] w w':=by
 have hw:=qsx a cap bs w h;have hn:=λa cap w h=>qo1 a cap (fV bs) w (Np bs) h
 have H:=ak hw hn;clear hw hn h;go_enter Tryz.func104,Tryz.ntmps104;go_wp2_with (first|(go_at_call 69;refine H.o0.mono ?_;rintro e w1 ⟨⟨a1,c1,rfl,r1⟩,f1⟩;have H1:=ak r1 f1;clear r1 f1)|(go_at_call 111;refine (H.l1 a1 c1 _ H1.o0).mono ?_;rintro e w2 ⟨rfl,f2⟩));go_ret;exact⟨rfl,H1.l1.trans f2⟩
end sums
namespace sha
open Go Go.RowKit lib
theorem Bk (x:Int) (n:Nat) (w:World) (hn:n=1\/n=5\/n=30) :
  Calls Tryz.prog 147 #[.int .u32 x,.int .i64 n] w λe w'=>e = .returned (.int .u32 (Hp x n))/\w'=w:=by
 have h31:bits .and .u64 (n:Int) 31=(n:Int):=by rcases hn with rfl|rfl|rfl<;>decide +kernel
 have h0:1<=n/\n<=30:=by omega
 clear hn;go_enter Tryz.func147,Tryz.ntmps147;go_wp2;go_ret;exact⟨rfl,rfl⟩
theorem R6 (b c d:Int) (w:World):Calls Tryz.prog 178 #[.int .u32 b,.int .u32 c,.int .u32 d] w λe w'=>e = .returned (.int .u32 (par b c d))/\w'=w:=by go_enter Tryz.func178,Tryz.ntmps178;go_wp2;go_ret;exact⟨rfl,rfl⟩
theorem RP (b c d:Int) (w:World):Calls Tryz.prog 179 #[.int .u32 b,.int .u32 c,.int .u32 d] w λe w'=>e = .returned (.int .u32 (ch b c d))/\w'=w:=by go_enter Tryz.func179,Tryz.ntmps179;go_wp2;go_ret;exact⟨rfl,rfl⟩
theorem R2 (b c d:Int) (w:World):Calls Tryz.prog 180 #[.int .u32 b,.int .u32 c,.int .u32 d] w λe w'=>e = .returned (.int .u32 (LF b c d))/\w'=w:=by go_enter Tryz.func180,Tryz.ntmps180;go_wp2;go_ret;exact⟨rfl,rfl⟩
def fns:Array Value:=#[.func (.func 179) #[] #[],.func (.func 178) #[] #[],.func (.func 180) #[] #[],.func (.func 178) #[] #[]]
def Au:Array Value:=#[.int .u32 1518500249,.int .u32 1859775393,.int .u32 2400959708,.int .u32 3395469782]
theorem qx9 (w:World):Calls Tryz.prog 148 #[] w λe w'=>e = .returned (.tuple #[.agg fns,.agg Au])/\Fr [] w w':=by go_enter Tryz.func148,Tryz.ntmps148;go_wp2;refine bodyPost_ret (v:=.tuple #[.agg fns,.agg Au]) (by simp[results,Tryz.results148,go_sem,fns,Au]) rfl ?_;exact⟨rfl,((Fr.refl [] w).alloc _).alloc _⟩
open bm
def sv (p:LB) (j:Nat):Int:=(sched p 80)[j]?.getD 0
theorem KT (p:LB) (j t:Nat) (h:j<t) (ht:t<=80):(sched p t)[j]?.getD 0=sv p j:=by unfold sv;rw[WR p j t h,WR p j 80 (by omega)]
theorem zhk (p:LB) (j:Nat) (h:j<16):sv p j=word p (4*j):=by rw[<-KT p j (j+1) (by omega) (by omega),sched,ye (by rw[Lu];exact ay _),Lu,DS];simp[h]
theorem zhl (p:LB) (j:Nat) (h:16<=j) (h2:j<80):sv p j=Hp (bits .xor .u32 (bits .xor .u32 (bits .xor .u32 (sv p (j-3)) (sv p (j-8))) (sv p (j-14))) (sv p (j-16))) 1:=by rw[<-KT p j (j+1) (by omega) (by omega),sched,ye (by rw[Lu];exact ay _),Lu,DS];rw[KT p (j-3) j (by omega) (by omega),KT p (j-8) j (by omega) (by omega),KT p (j-14) j (by omega) (by omega),KT p (j-16) j (by omega) (by omega)];simp[show ¬j<16 from by omega]
structure Mx (w wr:World) (h:H5) (p:LB) (B t:Nat):Prop where
 fr:Fr [] w wr
 hb:wr.heap[B]?=some (.cells h.vals 185 (0,0))
 rb:wr.heap[B+1]?=some (.cells #[.int .u32 0,.int .u32 0,.int .u32 0,.int .u32 0,.int .u32 0] 185 (0,0))
 wb:∃A,wr.heap[B+2]?=some (.cells A 228 (0,0))/\A.size=80/\∀j,j<t->A[j]?=some (.int .u32 (sv p j))
 lo:w.heap.size=B
theorem Mx.store {w wr wd:World} {h:H5} {p:LB} {B t:Nat} (m:Mx w wr h p B t) (f:Fr [] wr wd) (ht:t<80) (v:Int) (hv:v=sv p t):Mx w (wd.setCell ⟨B+2,t,none⟩ (.int .u32 v)) h p B (t+1):=by
 obtain⟨A,hA,dW,dZ⟩:=m.wb;have f2:Fr [B+2] wd (wd.setCell ⟨B+2,t,none⟩ (.int .u32 v)):=(Fr.refl [B+2] wd).setCell (by simp) _;refine⟨(m.fr.trans f).step f2 λy hy=>.inr (by simp at hy;have:=m.lo;omega),f2.af (f.af m.hb (by simp)) (by simp),f2.af (f.af m.rb (by simp)) (by simp),⟨_,bI (f.af hA (by simp)) _,by simp[dW],λj hj=>?_⟩,m.lo⟩;by_cases e:j=t
 ·subst e;rw[iG (by omega),hv]
 ·rw[aX (by omega)];exact dZ j (by omega)
theorem Mx.dQ {w wr wd:World} {h:H5} {p:LB} {B t:Nat} (m:Mx w wr h p B t) (f:Fr [] wr wd):Mx w wd h p B t:=by obtain⟨A,hA,dW,dZ⟩:=m.wb;exact⟨m.fr.trans f,f.af m.hb (by simp),f.af m.rb (by simp),⟨A,f.af hA (by simp),dW,dZ⟩,m.lo⟩
theorem jN {wz:World} {R:Nat} {t:TypeId} {u0 u1 u2 u3 u4:Value} (hb:wz.heap[R]?=some (.cells #[u0,u1,u2,u3,u4] t (0,0))) (v0 v1 v2 v3 v4:Value) :
  (((((wz.setCell ⟨R,0,none⟩ v0).setCell ⟨R,1,none⟩ v1).setCell ⟨R,2,none⟩ v2).setCell ⟨R,3,none⟩ v3).setCell ⟨R,4,none⟩ v4).heap[R]?=some (.cells #[v0,v1,v2,v3,v4] t (0,0))/\
   Fr [R] wz (((((wz.setCell ⟨R,0,none⟩ v0).setCell ⟨R,1,none⟩ v1).setCell ⟨R,2,none⟩ v2).setCell ⟨R,3,none⟩ v3).setCell ⟨R,4,none⟩ v4):=
 ⟨(bI (bI (bI (bI (bI hb _) _) _) _) _).trans rfl,(((((Fr.refl [R] wz).setCell (by simp) _).setCell (by simp) _).setCell (by simp) _).setCell (by simp) _).setCell (by simp) _⟩
theorem Om:(Tryz.prog.info? 185).map (·.size)=some 5:=by kernel_rfl
theorem Xs {fn:Func} {p:Tmp} (h:fn.results=#[.cell p 185]) (tmps:AV) (w:World) (g:Nat) (cs:AV) (fr:Nat×Nat)
  (hp:tmps.getD p undef = .pointer (some ⟨g,0,none⟩)) (hg:w.heap[g]?=some (.cells cs 185 fr)) (hs:cs.size=5):(results fn tmps).run Tryz.prog w = .ok (.agg cs) w:=
 results_cell_row h tmps w g 185 cs fr _ hp hg Tryz.underlying185 rfl (by rw[Om,hs])
theorem qze (h:H5) (a:OA) (len cap:Nat) (p:LB) (w:World) (hr:Rd w a cap p) (hlen:p.length=len) (pN:64<=len) :
  Calls Tryz.prog 117 #[.agg h.vals,.slice a len cap] w λe w'=>e = .returned (.agg (kr h p).vals)/\Fr [] w w':=by
 have hle:=hr.le;have dK:=hr.max;unfold maxLen at dK;rw[hlen]at hle;obtain⟨g,o,rfl⟩:∃g o,a=some ⟨g,o,none⟩:=by obtain⟨g,o,e,_⟩:=hr.at (i:=0) (by omega);exact⟨g,o,e⟩
 have H:=ak hr hlen;clear hr hlen;unfold H5.vals;go_enter Tryz.func117,Tryz.ntmps117;go_upto_block 0 with fail;obtain⟨B,w1,hB,cP,hm⟩:∃B w1,B=w.heap.size/\w1=((w.alloc (.cells #[.int .u32 h.a,.int .u32 h.b,.int .u32 h.c,.int .u32 h.d,.int .u32 h.e] 185)).alloc (.cells #[.int .u32 0,.int .u32 0,.int .u32 0,.int .u32 0,.int .u32 0] 185)).alloc (.cells Tryz.zeroCells228 228)/\Mx w w1 h p B 0:=by refine⟨_,_,rfl,rfl,(((Fr.refl [] w).alloc _).alloc _).alloc _,qm _ (qm _ (bC w _)),qm _ (by have:=bC (w.alloc (.cells #[.int .u32 h.a,.int .u32 h.b,.int .u32 h.c,.int .u32 h.d,.int .u32 h.e] 185)) (.cells #[.int .u32 0,.int .u32 0,.int .u32 0,.int .u32 0,.int .u32 0] 185);rw[fD]at this;exact this),⟨_,by have:=bC ((w.alloc (.cells #[.int .u32 h.a,.int .u32 h.b,.int .u32 h.c,.int .u32 h.d,.int .u32 h.e] 185)).alloc (.cells #[.int .u32 0,.int .u32 0,.int .u32 0,.int .u32 0,.int .u32 0] 185)) (.cells Tryz.zeroCells228 228);rw[fD,fD]at this;exact this,by kernel_rfl,λj hj=>by omega⟩,rfl⟩
 rw[<-cP,show w.heap.size+1+1=B+2 from by omega,<-hB];have HM:=aw hm hB cP;clear hm hB cP;go_wp2;go_loopg [6,17] 16 (λk s6 s17 wr=>∃t:Nat,s17 = .int .i64 (t:Nat)/\t+k=16/\Mx w wr h p B t);case atStart=>exact⟨0,rfl,rfl,HM.o0⟩
 case round=>
  obtain⟨t,rfl,cH,hm⟩:=hrel;by_cases ht:t<16
  ·obtain⟨k,rfl⟩:∃k,gk=k+1:=⟨gk-1,by omega⟩;have MD:=ah hm;clear hm;go_upto_region 5 with fail;have hm:=MD.out;obtain⟨A,hA,dW,dZ⟩:=hm.wb;have zA:=aW hA t;obtain⟨x0,iD⟩:∃x,wr.cell? ⟨B+2,t,none⟩=some x:=⟨A[t]'(by omega),by rw[cell_of hA];exact tr (by omega)⟩;obtain⟨m0,xu⟩:∃m,m=4*t:=⟨_,rfl⟩;obtain⟨m1,jt⟩:∃m,m=m0+1:=⟨_,rfl⟩;obtain⟨m2,iy⟩:∃m,m=m0+2:=⟨_,rfl⟩;obtain⟨m3,Pu⟩:∃m,m=m0+3:=⟨_,rfl⟩;have e0:(4:Int)*(t:Int)=(m0:Int):=by omega
   have e1:(m0:Int)+1=(m1:Int):=by omega
   have e2:(m0:Int)+2=(m2:Int):=by omega
   have e3:(m0:Int)+3=(m3:Int):=by omega
   have w0:IntKind.i64.wrap ((4:Int)*(t:Int))=(m0:Int):=by rw[oE];omega
   have U1:IntKind.i64.wrap ((m0:Int)+1)=(m1:Int):=by rw[oE];omega
   have KG:IntKind.i64.wrap ((m0:Int)+2)=(m2:Int):=by rw[oE];omega
   have U0:IntKind.i64.wrap ((m0:Int)+3)=(m3:Int):=by rw[oE];omega
   have fY:=H.l1;have ku:=H.o0.fr hm.fr;have b0:m0<p.length:=by omega
   have b1:m1<p.length:=by omega
   have b2:m2<p.length:=by omega
   have b3:m3<p.length:=by omega
   obtain⟨_,_,q0,X0⟩:=ku.at b0;obtain⟨_,_,q1,X1⟩:=ku.at b1;obtain⟨_,_,q2,X2⟩:=ku.at b2;obtain⟨_,_,q3,X3⟩:=ku.at b3;simp only[eJ,ru,and_true]at q0 q1 q2 q3;obtain⟨rfl,rfl⟩:=q0;obtain⟨rfl,rfl⟩:=q1;obtain⟨rfl,rfl⟩:=q2;obtain⟨rfl,rfl⟩:=q3;have hw:word p m0=((p[m0].toNat*16777216+p[m1].toNat*65536+p[m2].toNat*256+p[m3].toNat:Nat):Int):=by unfold word;rw[<-jt,<-iy,<-Pu,br b0,br b1,br b2,br b3];rfl
   have l0:=iL p[m0];have l1:=iL p[m1];have l2:=iL p[m2];have l3:=iL p[m3];generalize p[m0].toNat=y0 at *;generalize p[m1].toNat=y1 at *;generalize p[m2].toNat=y2 at *;generalize p[m3].toNat=y3 at *;obtain⟨z1,jr⟩:∃z,z=y0*16777216+y1*65536:=⟨_,rfl⟩;obtain⟨z2,mv⟩:∃z,z=z1+y2*256:=⟨_,rfl⟩;obtain⟨z3,uY⟩:∃z,z=z2+y3:=⟨_,rfl⟩;have r1:bits .or .u32 ((y0:Int)*16777216) ((y1:Int)*65536)=(z1:Int):=by have:=sums.y8 (y0*16777216) (y1*65536) 24 (by omega) (by decide) (by omega) (by omega);rw[<-jr]at this;simpa using this
   have r2:bits .or .u32 (z1:Int) ((y2:Int)*256)=(z2:Int):=by have:=sums.y8 z1 (y2*256) 16 (by omega) (by decide) (by omega) (by omega);rw[<-mv]at this;simpa using this
   have r3:bits .or .u32 (z2:Int) (y3:Int)=(z3:Int):=by have:=sums.y8 z2 y3 8 (by omega) (by decide) (by omega) (by omega);rw[<-uY]at this;exact this
   have HV:Hid ((z3:Int)=sv p t):=ah (by rw[zhk p t ht,<-xu,hw];congr 1;omega);have i0:(m0:Int)<(len:Int):=by omega
   have i1:(m1:Int)<(len:Int):=by omega
   have i2:(m2:Int)<(len:Int):=by omega
   have i3:(m3:Int)<(len:Int):=by omega
   clear hm hA dW dZ ku fY hw jr mv uY xu jt iy Pu b0 b1 b2 b3;refine uO 35 (by kernel_rfl) (by kernel_rfl) ?_;simp only[uF];repeat (go_big_quiet_step (fail))
   refine wpQuiet_nil ?_;clear X0 X1 X2 X3 w0 U1 KG U0 r1 r2 r3 e0 e1 e2 e3;go_wp2;go_roundg k;case measure=>omega
   case rel=>exact⟨t+1,by go_num,by omega,MD.out.store (Fr.av [] wr) (by omega) _ HV.out⟩
  ·obtain rfl:t=16:=by omega
   obtain rfl:gk=0:=by omega
   have HM1:=ah hm;clear hm;obtain⟨w2,rfl⟩:∃w2:World,w2=wr:=⟨_,rfl⟩;go_upto_block 2 with fail;go_wp2;go_loopg [7] 64 (λk s7 wr=>∃t:Nat,s7 = .int .i64 (t:Nat)/\t+k=80/\16<=t/\Mx w wr h p B t);case atStart=>exact⟨16,rfl,rfl,by omega,HM1.out⟩
   case round=>
    obtain⟨t,rfl,cH,Eu,hm⟩:=hrel;have MD:=ah hm;clear hm;by_cases ht:t<80
    ·obtain⟨k,rfl⟩:∃k,gk=k+1:=⟨gk-1,by omega⟩;go_upto_region 10 with fail;have hm:=MD.out;obtain⟨A,hA,dW,dZ⟩:=hm.wb;have zA:=aW hA t;obtain⟨x0,iD⟩:∃x,wr.cell? ⟨B+2,t,none⟩=some x:=⟨A[t]'(by omega),by rw[cell_of hA];exact tr (by omega)⟩;obtain⟨n3,xm⟩:∃m,m=t-3:=⟨_,rfl⟩;obtain⟨n8,yx⟩:∃m,m=t-8:=⟨_,rfl⟩;obtain⟨wT,BW⟩:∃m,m=t-14:=⟨_,rfl⟩;obtain⟨wS,xp⟩:∃m,m=t-16:=⟨_,rfl⟩;have e3:(t:Int)-3=(n3:Int):=by omega
     have e8:(t:Int)-8=(n8:Int):=by omega
     have e14:(t:Int)-14=(wT:Int):=by omega
     have e16:(t:Int)-16=(wS:Int):=by omega
     have w3:IntKind.i64.wrap ((t:Int)-3)=(n3:Int):=by rw[oE];omega
     have w8:IntKind.i64.wrap ((t:Int)-8)=(n8:Int):=by rw[oE];omega
     have xV:IntKind.i64.wrap ((t:Int)-14)=(wT:Int):=by rw[oE];omega
     have ug:IntKind.i64.wrap ((t:Int)-16)=(wS:Int):=by rw[oE];omega
     have x3:=(cell_of hA n3).trans (dZ n3 (by omega));have x8:=(cell_of hA n8).trans (dZ n8 (by omega));have UZ:=(cell_of hA wT).trans (dZ wT (by omega));have UY:=(cell_of hA wS).trans (dZ wS (by omega));have i3:(n3:Int)<80:=by omega
     have i8:(n8:Int)<80:=by omega
     have i14:(wT:Int)<80:=by omega
     have i16:(wS:Int)<80:=by omega
     have it:(t:Int)<80:=by omega
     have hv:=zhl p t Eu ht;rw[<-xm,<-yx,<-BW,<-xp]at hv;have HV:=ah hv;clear hm hA dW dZ xm yx BW xp hv;refine uO 22 (by kernel_rfl) (by kernel_rfl) ?_;simp only[uF];repeat (go_big_quiet_step (exact Bk _ 1 _ (.inl rfl) _))
     refine wpQuiet_nil ?_;clear x3 x8 UZ UY w3 w8 xV ug e3 e8 e14 e16;go_wp2;go_roundg k;case measure=>omega
     case rel=>exact⟨t+1,by go_num,by omega,by omega,MD.out.store (Fr.av [] wr) ht _ HV.out.symm⟩
    ·obtain rfl:t=80:=by omega
     obtain rfl:gk=0:=by omega
     obtain⟨w3,rfl⟩:∃w3:World,w3=wr:=⟨_,rfl⟩;go_upto_region 12 with (go_at_call 148;refine (qx9 _).mono ?_;unfold fns Au;rintro e w4 ⟨rfl,f4⟩;have H4:=ah f4;clear f4);obtain⟨Q,w5,hQ,pg,f5,qf,qk⟩:∃Q w5,Q=w4.heap.size/\w5=(w4.alloc (.cells fns 231)).alloc (.cells Au 232)/\Fr [] w4 w5/\w5.heap[Q]?=some (.cells fns 231 (0,0))/\w5.heap[Q+1]?=some (.cells Au 232 (0,0)):=
      ⟨_,_,rfl,rfl,((Fr.refl [] w4).alloc _).alloc _,qm _ (bC w4 _),by have:=bC (w4.alloc (.cells fns 231)) (.cells Au 232);rw[fD]at this;exact this⟩
     unfold fns Au at pg;rw[<-pg,<-hQ];have Jn:=MD.out.dQ (H4.out.trans f5);have k0:=cell_of Jn.hb 0;have k1:=cell_of Jn.hb 1;have k2:=cell_of Jn.hb 2;have k3:=cell_of Jn.hb 3;have k4:=cell_of Jn.hb 4;unfold H5.vals at k0 k1 k2 k3 k4;simp only[bF,aT,bP]at k0 k1 k2 k3 k4;have DM:=aw Jn qf qk;clear Jn qf qk pg hQ f5;go_quiet (fail);clear k0 k1 k2 k3 k4;go_upto_block 4 with fail;go_wp2;go_loopg [10,11,12,13,14,15,16,96] 80 (λk s10 s11 s12 s13 s14 s15 s16 s96 wr=>∃t:Nat,s96 = .int .i64 (t:Nat)/\t+k=80/\s10 = .int .u32 (rounds p t h).a/\s11 = .int .u32 (rounds p t h).b/\s12 = .int .u32 (rounds p t h).c/\s13 = .int .u32 (rounds p t h).d/\s14 = .int .u32 (rounds p t h).e/\Fr [] w5 wr);case atStart=>exact⟨0,rfl,rfl,rfl,rfl,rfl,rfl,rfl,Fr.drewN [] w5 _⟩
     case round=>
      obtain⟨t,rfl,cH,rfl,rfl,rfl,rfl,rfl,hf⟩:=hrel;have HF:=ah hf;clear hf;by_cases ht:t<80
      ·obtain⟨k,rfl⟩:∃k,gk=k+1:=⟨gk-1,by omega⟩;have fG:rounds p (t+1) h=round p t (rounds p t h):=rfl;unfold round at fG;have OV:(sched p 80)[t]?.getD 0=sv p t:=rfl;rw[OV]at fG;generalize rounds p t h=s at *;obtain⟨sa,sb,sc,sd,se⟩:=s;simp only at fG;have HR:=ah fG;clear fG OV;go_upto_region 16 with fail;have sF:=DM.o0.dQ HF.out;obtain⟨A,hA,dW,dZ⟩:=sF.wb;have xw:=(cell_of hA t).trans (dZ t ht);have bf:=HF.out.af DM.o1 (by simp);have bk:=HF.out.af DM.l2 (by simp);have it:(t:Int)<80:=by omega
       clear sF hA dW dZ;obtain⟨q,hq⟩:=ai (t/20);have Yt:q<4:=by omega
       have BO:(t:Int)/20=(q:Int):=by omega
       rw[<-hq]at HR;rcases (show q=0\/q=1\/q=2\/q=3 by omega) with rfl|rfl|rfl|rfl
       ·have xf:=cell_of bf 0;have xk:=cell_of bk 0;unfold fns at xf;unfold Au at xk;simp only[bF,aT,bP]at xf xk;clear bf bk hq;go_quiet ((first|(go_at_call 147;exact uK (Bk _ 5 _ (.inr (.inl rfl))))|(go_at_call 179;exact uK (RP _ _ _ _))|(go_at_call 178;exact uK (R6 _ _ _ _))|(go_at_call 180;exact uK (R2 _ _ _ _))));clear xf xk xw BO;go_wp2_with (go_at_call 147;refine (Bk _ 30 _ (.inr (.inr rfl))).mono ?_;rintro e w7 ⟨rfl,rfl⟩);go_roundg k;case measure=>omega
        case rel=>
         refine⟨t+1,by go_num,by omega,?_,?_,?_,?_,?_,HF.out.trans (Fr.drewN _ _ _)⟩;all_goals rw[HR.out]
         all_goals (first|rfl|(simp only[cW,FD,FC,tV,tD]))
       ·have xf:=cell_of bf 1;have xk:=cell_of bk 1;unfold fns at xf;unfold Au at xk;simp only[bF,aT,bP]at xf xk;clear bf bk hq;go_quiet ((first|(go_at_call 147;exact uK (Bk _ 5 _ (.inr (.inl rfl))))|(go_at_call 179;exact uK (RP _ _ _ _))|(go_at_call 178;exact uK (R6 _ _ _ _))|(go_at_call 180;exact uK (R2 _ _ _ _))));clear xf xk xw BO;go_wp2_with (go_at_call 147;refine (Bk _ 30 _ (.inr (.inr rfl))).mono ?_;rintro e w7 ⟨rfl,rfl⟩);go_roundg k;case measure=>omega
        case rel=>
         refine⟨t+1,by go_num,by omega,?_,?_,?_,?_,?_,HF.out.trans (Fr.drewN _ _ _)⟩;all_goals rw[HR.out]
         all_goals (first|rfl|(simp only[cW,FD,FC,tV,tD]))
       ·have xf:=cell_of bf 2;have xk:=cell_of bk 2;unfold fns at xf;unfold Au at xk;simp only[bF,aT,bP]at xf xk;clear bf bk hq;go_quiet ((first|(go_at_call 147;exact uK (Bk _ 5 _ (.inr (.inl rfl))))|(go_at_call 179;exact uK (RP _ _ _ _))|(go_at_call 178;exact uK (R6 _ _ _ _))|(go_at_call 180;exact uK (R2 _ _ _ _))));clear xf xk xw BO;go_wp2_with (go_at_call 147;refine (Bk _ 30 _ (.inr (.inr rfl))).mono ?_;rintro e w7 ⟨rfl,rfl⟩);go_roundg k;case measure=>omega
        case rel=>
         refine⟨t+1,by go_num,by omega,?_,?_,?_,?_,?_,HF.out.trans (Fr.drewN _ _ _)⟩;all_goals rw[HR.out]
         all_goals (first|rfl|(simp only[cW,FD,FC,tV,tD]))
       ·have xf:=cell_of bf 3;have xk:=cell_of bk 3;unfold fns at xf;unfold Au at xk;simp only[bF,aT,bP]at xf xk;clear bf bk hq;go_quiet ((first|(go_at_call 147;exact uK (Bk _ 5 _ (.inr (.inl rfl))))|(go_at_call 179;exact uK (RP _ _ _ _))|(go_at_call 178;exact uK (R6 _ _ _ _))|(go_at_call 180;exact uK (R2 _ _ _ _))));clear xf xk xw BO;go_wp2_with (go_at_call 147;refine (Bk _ 30 _ (.inr (.inr rfl))).mono ?_;rintro e w7 ⟨rfl,rfl⟩);go_roundg k;case measure=>omega
        case rel=>
         refine⟨t+1,by go_num,by omega,?_,?_,?_,?_,?_,HF.out.trans (Fr.drewN _ _ _)⟩;all_goals rw[HR.out]
         all_goals (first|rfl|(simp only[cW,FD,FC,tV,tD]))
      ·obtain rfl:t=80:=by omega
       obtain rfl:gk=0:=by omega
       have sF:=DM.o0.dQ HF.out;have k0:=cell_of sF.hb 0;have k1:=cell_of sF.hb 1;have k2:=cell_of sF.hb 2;have k3:=cell_of sF.hb 3;have k4:=cell_of sF.hb 4;unfold H5.vals at k0 k1 k2 k3 k4;simp only[bF,aT,bP]at k0 k1 k2 k3 k4;have c0:=cell_of sF.rb 0;have c1:=cell_of sF.rb 1;have c2:=cell_of sF.rb 2;have c3:=cell_of sF.rb 3;have c4:=cell_of sF.rb 4;have z0:=aW sF.rb 0;have z1:=aW sF.rb 1;have z2:=aW sF.rb 2;have z3:=aW sF.rb 3;have z4:=aW sF.rb 4;simp only[bF,aT,bP]at c0 c1 c2 c3 c4;have hmx:kr h p=⟨cW h.a (rounds p 80 h).a,cW h.b (rounds p 80 h).b,cW h.c (rounds p 80 h).c,cW h.d (rounds p 80 h).d,cW h.e (rounds p 80 h).e⟩:=rfl;generalize rounds p 80 h=s at *;unfold cW at hmx;have HX:=ak hmx sF;clear hmx sF;go_wp2;obtain⟨p1,p2⟩:=jN HX.out.2.rb (.int .u32 ((h.a+s.a)%4294967296)) (.int .u32 ((h.b+s.b)%4294967296)) (.int .u32 ((h.c+s.c)%4294967296)) (.int .u32 ((h.d+s.d)%4294967296)) (.int .u32 ((h.e+s.e)%4294967296));refine bodyPost_ret (Xs rfl _ _ (B+1) _ (0,0) rfl p1 rfl) rfl ?_;refine⟨by rw[HX.out.1],HX.out.2.fr.step p2 λy hy=>.inr (by simp at hy;have:=HX.out.2.lo;omega)⟩
end sha

end Go.Proofs.YtkmpfgpfbmeihaaGreatDoor