/-
  Texts of this proof, one behind the other: Mix, MixE, PackLaw, BitsMath, BitsOps, BitsInt, WrB, CloneB, CrcLaw, RIdx, ScrLaw, BitList, HuffLaw, HuffN, BitMore.
-/
import Derived.Test.YticadfhpolhkeaaGreatDoorQ1
import Derived.OrdersHeld
import Derived.Deep.DeepCutAuto
import Derived.Deep.CutBlock
import Derived.WalkMore
import Derived.Lib.SliceRun
import Derived.Lib.SlTrimSet
import Derived.Lib.Atoi
import Derived.Lib.SplitLaws
set_option maxHeartbeats 16000000
set_option maxRecDepth 100000
set_option linter.unusedVariables false
set_option linter.unusedSimpArgs false
namespace Go.Proofs.YticadfhpolhkeaaGreatDoor
namespace lib
open Go
variable {P:Program} {w w':World} {f:FuncId}
def jv:Op->Bool
 | .move _ | .assign _ | .pick .. | .load .. | .nilCheck _ | .binOp .. | .unOp .. | .convert .. | .slice .. | .fieldAddr .. | .field .. | .indexAddr .. | .index .. | .extract .. | .makeInterface ..=>true
 | .call { callee:=.builtin .len,.. } | .call { callee:=.builtin .cap,.. } | .call { callee:=.builtin .min,.. } | .call { callee:=.builtin .max,.. }=>true
 | _=>false
theorem qn9 {s:Sem Value} {args:AV}:(do pure (Next.value (<-s)):Sem Next).run P w≠.ok (.enter f args) w':=by
 intro h;rw[Bz]at h;cases hr:s.run P w with
 | ok v u=>rw[hr]at h;simp[Result.andThen]at h
 | halt x u=>rw[hr]at h;simp[Result.andThen]at h
theorem qq8 {ρ:Operand->Value} {o:Oper} {args:AV} (h:jv o.op=true):(execOp ρ o).run P w≠.ok (.enter f args) w':=by
 obtain⟨dst,op,ty,pos,after,guard⟩:=o;cases op<;>simp only[jv,Bool.false_eq_true]at h<;>try (exact qn9)
 case move=>simp[execOp]
 case assign=>simp[execOp]
 case pick c a b=>
  intro h;simp only[execOp,Bz]at h;cases hr:(asBool (ρ c)).run P w with
  | ok v u=>rw[hr]at h;simp[Result.andThen]at h
  | halt x u=>rw[hr]at h;simp[Result.andThen]at h
 case nilCheck x=>
  intro h;simp only[execOp]at h;split at h
  ·simp[runtimePanic,goPanic]at h
  ·simp[runtimePanic,goPanic]at h
  ·simp[runtimePanic,goPanic]at h
  ·split at h
   ·simp[runtimePanic,goPanic]at h
   ·simp[unsupported,Result.andThen]at h;split at h
    ·split at h<;>simp at h
    ·simp at h
   ·simp at h
  ·simp at h
 case call c=>
  obtain⟨callee,args,ts⟩:=c;cases callee with
  | value f=>simp[jv]at h
  | invoke r m=>simp[jv]at h
  | builtin b=>cases b<;>simp[jv]at h<;>(simp only[execOp,resolve,pure_bind,invoke,builtin];exact qn9)
theorem KY {o:Oper} {a:Act} {C:World->Prop} {v:Value} (hk:jv o.op=true) (h:o.quietAt P a C w v) :
  (execOp a.eval o).run P w = .ok (.value v) w\/((execOp a.eval o).run P w = .ok .skip w/\v=undef):=by
 unfold Oper.quietAt at h;generalize hr:(execOp a.eval o).run P w=r at h;cases r with
 | ok n w'=>
  cases n<;>simp only[Oper.quietUpon]at h;case value u=>left;rw[h.1,h.2]
  case skip=>right;rw[h.1];exact⟨rfl,h.2⟩
  case enter f args=>exact absurd hr (qq8 hk)
 | halt x w'=>simp only[Oper.quietUpon]at h
open Classical in
noncomputable def sup (S:LN) (w x:World):World:=if Fr S w x then x else w
theorem gB (S:LN) (w x:World):Fr S w (sup S w x):=by
 unfold sup;split
 ·assumption
 ·exact Fr.refl _ _
theorem zc8 {S:LN} {w x:World} (h:Fr S w x):sup S w x=x:=by unfold sup;rw[if_pos h]
@[go_sem] def fC (S:LN) (w:World):World->Prop:=λu=>∃x,u=sup S w x
theorem fC.of {S:LN} {w u:World} (h:Fr S w u):fC S w u:=⟨u,(zc8 h).symm⟩
theorem fC.fr {S:LN} {w u:World} (h:fC S w u):Fr S w u:=by obtain⟨x,rfl⟩:=h;exact gB S w x
theorem fC.sub {S:LN} {w w':World} (h:Fr S w w'):∀u,fC S w' u->fC S w u:=λu hu=>fC.of (h.trans hu.fr)
@[go_sem] theorem zje {S:LN} {w x:World} {a:Addr} (h:(w.cell? a).isSome=true) (hn:a.block∉S):(sup S w x).cell? a=w.cell? a:=by obtain⟨v,hv⟩:=Option.isSome_iff_exists.1 h;rw[hv,(gB S w x).cell hv hn]
section
variable {P : Program} {ops : Array Oper} {Q : Exit -> Act -> World -> Prop} {md : Region.Mode}
def QY (P:Program) (ops:Array Oper) (C:World->Prop) (o:Oper) (v:Value) (a:Act):Prop:=
 (Region.wanted o (yielded ops a.tmps)=true/\∀w,C w->(execOp a.eval o).run P w = .ok (.value v) w\/((execOp a.eval o).run P w = .ok .skip w/\v=undef))\/
 (Region.wanted o (yielded ops a.tmps)=false/\v=undef)
theorem QY.of_same {C:World->Prop} {o:Oper} {v:Value} {a a':Act} (hy:QY P ops C o v a) (he:execOp a'.eval o=execOp a.eval o)
  (hw:Region.wanted o (yielded ops a'.tmps)=Region.wanted o (yielded ops a.tmps)):QY P ops C o v a':=by
 unfold QY at *;rw[he,hw];exact hy
theorem QY.op {C:World->Prop} {i:Nat} {o:Oper} {v:Value} {a:Act} (hi:ops[i]?=some o) (hy:QY P ops C o v a) {K:Act->World->Prop} {w:World} (hC:C w) (h:K (a.put o.dst v) w):wpOp P ops Q i K a w:=by
 unfold wpOp;simp only[hi];rcases hy with⟨hw,hv⟩|⟨hw,rfl⟩
 ·rcases hv w hC with hr|⟨hr,rfl⟩
  ·simp only[hw,if_true,Oper.wp,hr,Oper.upon];exact .inl h
  ·simp only[hw,if_true,Oper.wp,hr,Oper.upon];exact .inl h
 ·simp only[hw,Bool.false_eq_true,if_false];exact h
theorem Ti {C:World->Prop} {j:Nat} {oi oj:Oper} {v:Value} (hj:ops[j]?=some oj) (cS:oi.apart ops oj=true)
  (FB:∀cs b,oi.op≠.select cs b) (hsj:∀cs b,oj.op≠.select cs b)
  (hQ:∀c a d v w,Q (.panic c) (Act.put a d v) w->Q (.panic c) a w) {K:Act->World->Prop} {a:Act} {w:World}
  (hy:QY P ops C oi v a) (h:wpOp P ops Q j K (a.put oi.dst v) w) :
  wpOp P ops Q j (λa' w'=>QY P ops C oi v a'/\K (a'.put oi.dst v) w') a w:=by
 obtain⟨h1,h2,h3⟩:=Oper.apart_spec cS;have keep:∀(a:Act),QY P ops C oi v a->∀u,QY P ops C oi v (a.put oj.dst u):=λa hy u=>hy.of_same (execOp_put oi FB a oj.dst u h3) (wanted_put oi a oj.dst u h3)
 have Ly:∀d,QY P ops C oi v { a with defers:=d::a.defers }:=λd=>hy.of_same rfl rfl
 unfold wpOp at *;simp only[hj]at *;rw[wanted_put oj a oi.dst v h1]at h;by_cases hw:Region.wanted oj (yielded ops a.tmps)=true
 ·simp only[hw,if_true]at h ⊢;rcases h with h|⟨Ef,MK⟩
  ·left;unfold Oper.wp at *;rw[execOp_put oj hsj a oi.dst v h1]at h;generalize (execOp a.eval oj).run P w=r at *;cases r with
   | ok n w'=>
    cases n<;>simp only[Oper.upon]at h ⊢;case value u=>exact⟨keep a hy u,by rw[<-Act.put_comm a v u h2];exact h⟩
    case skip=>exact⟨keep a hy _,by rw[<-Act.put_comm a v undef h2];exact h⟩
    case defer d=>refine⟨keep _ (Ly d) _,?_⟩;rw[<-Act.put_comm _ v undef h2,<-Act.put_defers];exact h
    case enter f args=>
     refine Calls.mono h λe fK he=>?_
     cases e with
     | returned u=>exact⟨keep a hy u,by rw[<-Act.put_comm a v u h2];exact he⟩
     | panicked c=>exact hQ _ _ _ _ _ he
     | outgrown=>exact he
    case row row args=>exact Rows.mono h λu fK he=>⟨keep a hy u,by rw[<-Act.put_comm a v u h2];exact he⟩
   | halt x w'=>cases x<;>simp only[Oper.upon]at h ⊢;case panic u=>exact hQ _ _ _ _ _ h
  ·right;refine⟨?_,MK⟩;unfold Oper.asks at *;rw[execOp_put oj hsj a oi.dst v h1]at Ef;exact Ef
 ·simp only[hw]at h ⊢;exact⟨keep a hy _,by rw[<-Act.put_comm a v undef h2];exact h⟩
def lT (P:Program) (md:Region.Mode) (ops:Array Oper) (Q:Exit->Act->World->Prop) (n:Nat) (C:World->Prop):Nat->Array Bool->Act->World->Prop
 | 0,listed,a,w=>Region.ready md ops listed=[]/\Q .normal a w
 | f+1,listed,a,w=>(Region.ready md ops listed=[]->Q .normal a w)/\
  ∀i∈Region.ready md ops listed,wpOp P ops Q i (λa' w'=>(i<n->C w')/\lT P md ops Q n C f (listed.setIfInBounds i true) a' w') a w
theorem PA {n:Nat} {C C':World->Prop} (hC:∀u,C' u->C u):∀(f:Nat) (listed:Array Bool) (a:Act) (w:World),lT P md ops Q n C' f listed a w->lT P md ops Q n C f listed a w
 | 0,_,_,_,h=>h
 | f+1,_,_,_,h=>⟨h.1,λi hi=>wpOp_mono (λa' w' h'=>⟨λhn=>hC _ (h'.1 hn),PA hC f _ a' w' h'.2⟩) (h.2 i hi)⟩
theorem KU {n:Nat} {C:World->Prop}:∀(f:Nat) (listed:Array Bool) (a:Act) (w:World),lT P md ops Q n C f listed a w->wpAny P md ops Q f listed a w
 | 0,_,_,_,h=>h
 | f+1,_,_,_,h=>⟨h.1,λi hi=>wpOp_mono (λa' w' h'=>KU f _ a' w' h'.2) (h.2 i hi)⟩
theorem PU {n i:Nat} {oi:Oper} {v:Value} {C:World->Prop} (hi:ops[i]?=some oi) (bQ:∀(j:Nat) (o:Oper) cs b,ops[j]?=some o->o.op≠.select cs b)
  (hQ:∀c a d v w,Q (.panic c) (Act.put a d v) w->Q (.panic c) a w) (fD:i<n)
  (hT:∀listed,HeadInv md ops n listed->listed.getD i true=false->∀t,n<=t->t∉Region.ready md ops listed) :
  ∀(f:Nat) (listed:Array Bool) (a:Act) (w:World),HeadInv md ops n listed->
   (∀j oj,ops[j]?=some oj->j≠i->listed.getD j true=false->(∀e∈oj.after,Region.binds md e=true->e.on≠i)->oi.apart ops oj=true)->
   i∈Region.ready md ops listed->QY P ops C oi v a->C w->
   lT P md ops Q n C f (listed.setIfInBounds i true) (a.put oi.dst v) w->lT P md ops Q n C (f+1) listed a w:=by
 intro f;induction f with
 | zero=>
  intro listed a w inv _ hr hy hC H;refine⟨λh=>(by rw[h]at hr;cases hr),λj hj=>?_⟩;by_cases jr:j=i
  ·subst jr;exact hy.op hi hC ⟨λ_=>hC,H⟩
  ·have:=ready_mono hj jr;rw[H.1]at this;cases this
 | succ f ih=>
  intro listed a w inv nr hr hy hC H;have kA:=(mem_ready.1 hr).1;refine⟨λh=>(by rw[h]at hr;cases hr),λj hj=>?_⟩;by_cases jr:j=i
  ·subst jr;exact hy.op hi hC ⟨λ_=>hC,H⟩
  ·have Cq:j<n:=by
    rcases kT j n with h|h
    ·exact h
    ·exact absurd hj (hT listed inv kA j h)
   have h1:=H.2 j (ready_mono hj jr);obtain⟨tN,oj,oV,ct⟩:=mem_ready.1 hj;have zk:∀e∈oj.after,Region.binds md e=true->e.on≠i:=λe he hb heq=>by have h1:=ct e he hb;rw[heq,getD_both kA]at h1;cases h1
   have h2:=Ti oV (nr j oj oV jr tN zk) (λcs b=>bQ i oi cs b hi) (λcs b=>bQ j oj cs b oV) hQ hy h1;have pg:∀k ok,ops[k]?=some ok->k≠i->(listed.setIfInBounds j true).getD k true=false->
     (∀e∈ok.after,Region.binds md e=true->e.on≠i)->oi.apart ops ok=true:=λk ok hk MS tM mg=>by
    refine nr k ok hk MS ?_ mg
    by_cases fP:j=k
    ·subst fP;exact tN
    ·rw[getD_set_ne true fP]at tM;exact tM
   refine wpOp_mono (λa' w' h3=>⟨h3.2.1,?_⟩) h2;refine ih (listed.setIfInBounds j true) a' w' (inv.set hj Cq) pg (ready_mono hr (pM jr)) h3.1 (h3.2.1 Cq) ?_;rw[Array.setIfInBounds_comm _ _ jr];exact h3.2.2
theorem PY {n:Nat} {C:World->Prop}:∀(l:List Oper) (k:Nat) (listed:Array Bool) (a:Act) (w:World),n<=k->(∀j,l[j]?=ops[k+j]?)->
  Region.seqB md ops l.length k listed=true->wpList P ops Q l a w->lT P md ops Q n C l.length listed a w
 | [],_,_,_,_,_,_,hB,h=>⟨by simpa[Region.seqB] using hB,h⟩
 | o::l,k,listed,a,w,hk,hl,hB,h=>by
  have h0:ops[k]?=some o:=by simpa using (hl 0).symm
  simp only[dw,Region.seqB,kI,decide_eq_true_eq]at hB;refine⟨λh1=>(by rw[hB.1]at h1;cases h1),λi hi=>?_⟩;rw[hB.1]at hi;have cQ:i=k:=by simpa using hi
  subst cQ;have hw:wpOp P ops Q i (wpList P ops Q l) a w:=by unfold wpOp;simp only[h0];exact h
  exact wpOp_mono (λa' w' h'=>⟨λbF=>by omega,PY l (i+1) _ a' w' (by omega) (λj=>by have:=hl (j+1);simpa[pP,Nat.add_comm 1 j] using this) hB.2 h'⟩) hw
def jY (P:Program) (ops:Array Oper) (S:LN) (Q:Exit->Act->World->Prop) (tail:List Oper):List (Bool×Oper)->Act->World->Prop
 | [],a,w=>wpList P ops Q tail a w
 | (false,o)::rest,a,w=>if Region.wanted o (yielded ops a.tmps) then o.quiet P a (fC S w) (λa'=>jY P ops S Q tail rest a' w) else jY P ops S Q tail rest (a.put o.dst undef) w
 | (true,o)::rest,a,w=>if Region.wanted o (yielded ops a.tmps) then o.wp P a w (λa' w'=>Fr S w w'/\jY P ops S Q tail rest a' w') Q else jY P ops S Q tail rest (a.put o.dst undef) w
def xi (md:Region.Mode) (ops:Array Oper) (n:Nat):List (Bool×Nat)->Array Bool->Bool
 | [],listed=>Region.seqB md ops (ops.size-n) n listed
 | (e,i)::rest,listed=>decide (i<n)&&(match e with
   | true=>decide (Region.ready md ops listed=[i])
   | false=>(Region.ready md ops listed).contains i&&Region.free md ops listed i&&(match ops[i]? with|some o=>jv o.op|none=>false))&&xi md ops n rest (listed.setIfInBounds i true)
def rC (md:Region.Mode) (ops:Array Oper) (n:Nat) (order:List (Bool×Nat)):Bool:=
 Region.noSelect ops&&(decide (n=ops.size)||(decide (n<ops.size)&&Region.sinkB md ops n&&Region.chainB md ops n))&&decide (order.length+(ops.size-n)=ops.size)&&xi md ops n order (Array.replicate ops.size false)
theorem Kd {n:Nat} {S:LN} {l:List Oper} (hl:ops=l.toArray) (bQ:Region.noSelect ops=true) (hQ:∀c a d v w,Q (.panic c) (Act.put a d v) w->Q (.panic c) a w)
  (hT:∀i,i<n->∀listed,HeadInv md ops n listed->listed.getD i true=false->∀t,n<=t->t∉Region.ready md ops listed) :
  ∀(order:List (Bool×Nat)) (listed:Array Bool) (a:Act) (w:World),HeadInv md ops n listed->xi md ops n order listed=true->
   jY P ops S Q (l.drop n) (order.map λx=>(x.1,l.getD x.2 default)) a w->lT P md ops Q n (fC S w) (order.length+(ops.size-n)) listed a w
 | [],listed,a,w,_,hB,h=>by
  have hlen:(l.drop n).length=ops.size-n:=by rw[hl];simp
  have:=PY (P:=P) (Q:=Q) (md:=md) (ops:=ops) (n:=n) (C:=fC S w) (l.drop n) n listed a w (ax _) (λj=>by rw[hl];simp[EZ]) (by rw[hlen];exact hB) h;simpa[hlen] using this
 | (e,i)::rest,listed,a,w,inv,hB,h=>by
  simp only[xi,kI,decide_eq_true_eq]at hB;obtain⟨⟨fD,he⟩,bE⟩:=hB;have hlen:((e,i)::rest).length+(ops.size-n)=rest.length+(ops.size-n)+1:=by simp;omega
  rw[hlen];cases e with
  | false=>
   simp only[kI]at he;obtain⟨⟨hr,hf⟩,hk⟩:=he;have eZ:i∈Region.ready md ops listed:=by simpa using hr
   obtain⟨_,oi,dQ,_⟩:=mem_ready.1 eZ;rw[dQ]at hk;have hd:l.getD i default=oi:=by rw[hl]at dQ;simp at dQ;simp[List.getD,dQ]
   simp only[jL,hd,jY]at h;have hC:fC S w w:=fC.of (Fr.refl _ _);by_cases hw:Region.wanted oi (yielded ops a.tmps)=true
   ·rw[if_pos hw]at h;obtain⟨v,h1,h2⟩:=h;have hy:QY P ops (fC S w) oi v a:=.inl ⟨hw,λu hu=>KY hk (h1 u hu)⟩;exact PU dQ (Av bQ) hQ fD (hT i fD) _ listed a w inv (Aq dQ hf) eZ hy hC (Kd hl bQ hQ hT rest _ _ w (inv.set eZ fD) bE h2)
   ·rw[if_neg hw]at h;have hy:QY P ops (fC S w) oi undef a:=.inr ⟨by simpa using hw,rfl⟩;exact PU dQ (Av bQ) hQ fD (hT i fD) _ listed a w inv (Aq dQ hf) eZ hy hC (Kd hl bQ hQ hT rest _ _ w (inv.set eZ fD) bE h)
  | true=>
   simp only[decide_eq_true_eq]at he;have eZ:i∈Region.ready md ops listed:=by rw[he];simp
   obtain⟨_,oi,dQ,_⟩:=mem_ready.1 eZ;have hd:l.getD i default=oi:=by rw[hl]at dQ;simp at dQ;simp[List.getD,dQ]
   simp only[jL,hd,jY]at h;refine⟨λh0=>(by rw[h0]at eZ;cases eZ),λj hj=>?_⟩;rw[he]at hj;have jr:j=i:=by simpa using hj
   subst jr;unfold wpOp;simp only[dQ];by_cases hw:Region.wanted oi (yielded ops a.tmps)=true
   ·rw[if_pos hw]at h;rw[if_pos hw];left;exact Oper.wp_mono (λa' w' h'=>⟨λ_=>fC.of h'.1,PA (fC.sub h'.1) _ _ _ _ (Kd hl bQ hQ hT rest _ a' w' (inv.set eZ fD) bE h'.2)⟩) h
   ·rw[if_neg hw]at h;rw[if_neg hw];exact⟨λ_=>fC.of (Fr.refl _ _),Kd hl bQ hQ hT rest _ _ w (inv.set eZ fD) bE h⟩
theorem lK {id:Nat} {a:Act} {w:World} {l:List Oper} (n:Nat) (order:List (Bool×Nat)) (S:LN) (hm:P.follows .mixedOrders=true) (hB:rC .any l.toArray n order=true)
  (hQ:∀c a d v w,Q (.panic c) (Act.put a d v) w->Q (.panic c) a w)
  (h:jY P l.toArray S Q (l.drop n) (order.map λx=>(x.1,l.getD x.2 default)) a w.drew):(Code.region id l.toArray true).wp P Q a w:=by
 simp only[rC,kI,decide_eq_true_eq,Hs]at hB;obtain⟨⟨⟨bQ,hn⟩,hlen⟩,rH⟩:=hB;have uL:HeadInv .any l.toArray n (Array.replicate l.toArray.size false):=
  ⟨by simp,λj oj _ hl=>(by rw[getD_replicate_false]at hl;cases hl),λt _ ht=>getD_in (by simpa using ht) (getD_replicate_false _ _)⟩
 have hT:∀i,i<n->∀listed,HeadInv .any l.toArray n listed->listed.getD i true=false->∀t,n<=t->t∉Region.ready .any l.toArray listed:=by
  intro i hi listed inv kA t ht hr;rcases hn with hn|⟨⟨hn,hs⟩,hc⟩
  ·obtain⟨_,o,ho,_⟩:=mem_ready.1 hr;have:=(Oy.1 ho).1;omega
  ·exact tail_waits hs hc hn inv _ i rfl hi kA t ht hr
 refine wp_region_any hm (KU (n:=n) (C:=fC S w.drew) _ _ _ _ ?_);have:=Kd (P:=P) (Q:=Q) (md:=.any) (n:=n) (S:=S) rfl bQ hQ hT order _ a w.drew uL rH h;rw[hlen]at this;exact this
theorem eD {S:LN} {tail:List Oper} {items:List (Bool×Oper)} {a:Act} {w:World} (k:Nat) (h0:((items.take k).all λx=>!x.1)=true)
  (h:wpQuiet P ops (fC S w) (λa'=>jY P ops S Q tail (items.drop k) a' w) ((items.take k).map (·.2)) a):jY P ops S Q tail items a w:=by
 induction k generalizing items a with
 | zero=>exact h
 | succ k ih=>
  cases items with
  | nil=>exact h
  | cons x rest=>
   obtain⟨b,o⟩:=x;simp only[lh,List.all_cons,kI,Bool.not_eq_true']at h0;obtain⟨rfl,h0⟩:=h0;simp only[lh,jL,nY,wpQuiet]at h;unfold jY;by_cases hw:Region.wanted o (yielded ops a.tmps)=true
   ·rw[if_pos hw]at h ⊢;obtain⟨v,h1,h2⟩:=h;exact⟨v,h1,ih h0 h2⟩
   ·rw[if_neg hw]at h ⊢;exact ih h0 h
theorem jb {S:LN} {tail:List Oper} {rest:List (Bool×Oper)} {o:Oper} {a:Act} {w:World} (hw:Region.wanted o (yielded ops a.tmps)=true)
  (h:∀K:Act->World->Prop,Go.RowKit.Hid (∀a' w',Fr S w w'->jY P ops S Q tail rest a' w'->K a' w')->o.wp P a w K Q):jY P ops S Q tail ((true,o)::rest) a w:=by
 unfold jY;rw[if_pos hw];exact h _ λ_ _ h1 h2=>⟨h1,h2⟩
theorem Kc {S:LN} {tail:List Oper} {rest:List (Bool×Oper)} {o:Oper} {a:Act} {w:World} (hw:Region.wanted o (yielded ops a.tmps)=false)
  (h:jY P ops S Q tail rest (a.put o.dst undef) w):jY P ops S Q tail ((true,o)::rest) a w:=by
 unfold jY;rw[if_neg (by rw[hw];exact Bool.false_ne_true)];exact h
theorem j4 {S:LN} {tail:List Oper} {a:Act} {w:World} (h:wpList P ops Q tail a w):jY P ops S Q tail [] a w:=h
end
theorem qko {P:Program} (S:LN) (w:World) {src dst e:TypeId} (hs:P.underlying src=some (.slice e)) (he:P.underlying e=some (.int .u8)) (hd:P.underlying dst=some .string)
  {ao:OA} {n:Nat} {bs:LB} (hn:bs.length=n) (hcs:Cs w ao (bs.map bv)) (hb:∀x∈ag ao,x∉S) :
  ∀x cap,(convert src dst (.slice ao n cap)).run P (sup S w x) = .ok (.string (str bs)) (sup S w x):=
 λx cap=>xX (sup S w x) hs he hd hn (hcs.fr (gB S w x) hb) cap
end lib
namespace lib
open Go
section
variable {P : Program} {ops : Array Oper} {Q : Exit -> Act -> World -> Prop} {md : Region.Mode}
def yy (P:Program) (md:Region.Mode) (ops:Array Oper) (Q:Exit->Act->World->Prop) (D:Nat->World->World->Prop):Nat->Array Bool->Act->World->Prop
 | 0,listed,a,w=>Region.ready md ops listed=[]/\Q .normal a w
 | f+1,listed,a,w=>(Region.ready md ops listed=[]->Q .normal a w)/\
  ∀i∈Region.ready md ops listed,wpOp P ops Q i (λa' w'=>D i w w'/\yy P md ops Q D f (listed.setIfInBounds i true) a' w') a w
theorem qlj {D:Nat->World->World->Prop}:∀(f:Nat) (listed:Array Bool) (a:Act) (w:World),yy P md ops Q D f listed a w->wpAny P md ops Q f listed a w
 | 0,_,_,_,h=>h
 | f+1,_,_,_,h=>⟨h.1,λi hi=>wpOp_mono (λa' w' h'=>qlj f _ a' w' h'.2) (h.2 i hi)⟩
theorem PT {i:Nat} {oi:Oper} {v:Value} {C:World->Prop} {D:Nat->World->World->Prop} (hi:ops[i]?=some oi) (bQ:∀(j:Nat) (o:Oper) cs b,ops[j]?=some o->o.op≠.select cs b)
  (hQ:∀c a d v w,Q (.panic c) (Act.put a d v) w->Q (.panic c) a w) (Bh:∀w,D i w w)
  (hT:∀listed,listed.getD i true=false->∀t∈Region.ready md ops listed,t≠i->∀w w',C w->D t w w'->C w') :
  ∀(f:Nat) (listed:Array Bool) (a:Act) (w:World),
   (∀j oj,ops[j]?=some oj->j≠i->listed.getD j true=false->(∀e∈oj.after,Region.binds md e=true->e.on≠i)->oi.apart ops oj=true)->
   i∈Region.ready md ops listed->QY P ops C oi v a->C w->
   yy P md ops Q D f (listed.setIfInBounds i true) (a.put oi.dst v) w->yy P md ops Q D (f+1) listed a w:=by
 intro f;induction f with
 | zero=>
  intro listed a w _ hr hy hC H;refine⟨λh=>(by rw[h]at hr;cases hr),λj hj=>?_⟩;by_cases jr:j=i
  ·subst jr;exact hy.op hi hC ⟨Bh w,H⟩
  ·have:=ready_mono hj jr;rw[H.1]at this;cases this
 | succ f ih=>
  intro listed a w nr hr hy hC H;have kA:=(mem_ready.1 hr).1;refine⟨λh=>(by rw[h]at hr;cases hr),λj hj=>?_⟩;by_cases jr:j=i
  ·subst jr;exact hy.op hi hC ⟨Bh w,H⟩
  ·have h1:=H.2 j (ready_mono hj jr);obtain⟨tN,oj,oV,ct⟩:=mem_ready.1 hj;have zk:∀e∈oj.after,Region.binds md e=true->e.on≠i:=λe he hb heq=>by have h1:=ct e he hb;rw[heq,getD_both kA]at h1;cases h1
   have h2:=Ti oV (nr j oj oV jr tN zk) (λcs b=>bQ i oi cs b hi) (λcs b=>bQ j oj cs b oV) hQ hy h1;have pg:∀k ok,ops[k]?=some ok->k≠i->(listed.setIfInBounds j true).getD k true=false->
     (∀e∈ok.after,Region.binds md e=true->e.on≠i)->oi.apart ops ok=true:=λk ok hk MS tM mg=>by
    refine nr k ok hk MS ?_ mg
    by_cases fP:j=k
    ·subst fP;exact tN
    ·rw[getD_set_ne true fP]at tM;exact tM
   refine wpOp_mono (λa' w' h3=>⟨h3.2.1,?_⟩) h2;refine ih (listed.setIfInBounds j true) a' w' pg (ready_mono hr (pM jr)) h3.1 (hT listed kA j hj jr w w' hC h3.2.1) ?_;rw[Array.setIfInBounds_comm _ _ jr];exact h3.2.2
def DE (S:LN) (lates:LN) (j:Nat) (w w':World):Prop:=if lates.contains j=true then Fr S w w' else w'=w
def iO (P:Program) (ops:Array Oper) (S:LN) (Q:Exit->Act->World->Prop):List (Nat×Oper)->Act->World->Prop
 | [],a,w=>Q .normal a w
 | (0,o)::rest,a,w=>if Region.wanted o (yielded ops a.tmps) then o.quiet P a (fC S w) (λa'=>iO P ops S Q rest a' w) else iO P ops S Q rest (a.put o.dst undef) w
 | (1,o)::rest,a,w=>if Region.wanted o (yielded ops a.tmps) then o.quiet P a (λu=>u=w) (λa'=>iO P ops S Q rest a' w) else iO P ops S Q rest (a.put o.dst undef) w
 | (_+2,o)::rest,a,w=>if Region.wanted o (yielded ops a.tmps) then o.wp P a w (λa' w'=>Fr S w w'/\iO P ops S Q rest a' w') Q else iO P ops S Q rest (a.put o.dst undef) w
def waitsFor (md:Region.Mode) (ops:Array Oper) (t i:Nat):Bool:=match ops[t]? with
 | some o=>o.after.toList.any λe=>Region.binds md e&&decide (e.on=i)
 | none=>true
def ry (md:Region.Mode) (ops:Array Oper) (lates:LN) (i:Nat) (listed:Array Bool):Bool:=
 (Region.ready md ops listed).contains i&&Region.free md ops listed i&&(match ops[i]? with|some o=>jv o.op|none=>false)&&!lates.contains i
def lX (md:Region.Mode) (ops:Array Oper) (lates:LN):List (Nat×Nat)->Array Bool->Bool
 | [],listed=>decide (Region.ready md ops listed=[])
 | (0,i)::rest,listed=>ry md ops lates i listed&&lX md ops lates rest (listed.setIfInBounds i true)
 | (1,i)::rest,listed=>ry md ops lates i listed&&lates.all (λt=>waitsFor md ops t i)&&lX md ops lates rest (listed.setIfInBounds i true)
 | (_+2,i)::rest,listed=>decide (Region.ready md ops listed=[i])&&lates.contains i&&lX md ops lates rest (listed.setIfInBounds i true)
theorem qxq {i t:Nat} {listed:Array Bool} (h:waitsFor md ops t i=true) (kA:listed.getD i true=false) (ht:t∈Region.ready md ops listed):False:=by obtain⟨_,o,ho,ct⟩:=mem_ready.1 ht;simp only[waitsFor,ho,Hz,kI,decide_eq_true_eq]at h;obtain⟨e,he,hb,heq⟩:=h;have h1:=ct e (by simpa using he) hb;rw[heq,getD_both kA]at h1;cases h1
theorem zjh {S lates:LN} {b:World} {t:Nat} {w w':World} (hC:fC S b w) (h:DE S lates t w w'):fC S b w':=by
 unfold DE at h;split at h
 ·exact fC.of (hC.fr.trans h)
 ·rw[h];exact hC
theorem EU {S lates:LN} {l:List Oper} (hl:ops=l.toArray) (bQ:Region.noSelect ops=true) (hQ:∀c a d v w,Q (.panic c) (Act.put a d v) w->Q (.panic c) a w) :
  ∀(order:List (Nat×Nat)) (listed:Array Bool) (a:Act) (w:World),lX md ops lates order listed=true->
   iO P ops S Q (order.map λx=>(x.1,l.getD x.2 default)) a w->yy P md ops Q (DE S lates) order.length listed a w
 | [],listed,a,w,hB,h=>by
  simp only[lX,decide_eq_true_eq]at hB;exact⟨hB,h⟩
 | (0,i)::rest,listed,a,w,hB,h=>by
  simp only[lX,ry,kI,Bool.not_eq_true']at hB;obtain⟨⟨⟨⟨hr,hf⟩,hk⟩,bF⟩,bE⟩:=hB;have eZ:i∈Region.ready md ops listed:=by simpa using hr
  obtain⟨_,oi,dQ,_⟩:=mem_ready.1 eZ;rw[dQ]at hk;have hd:l.getD i default=oi:=by rw[hl]at dQ;simp at dQ;simp[List.getD,dQ]
  simp only[jL,hd,iO]at h;have hC:fC S w w:=fC.of (Fr.refl _ _);have Bh:∀w,DE S lates i w w:=λw=>by unfold DE;split;exact Fr.refl _ _;rfl
  have hT:∀listed:Array Bool,listed.getD i true=false->∀t∈Region.ready md ops listed,t≠i->∀w1 w',fC S w w1->DE S lates t w1 w'->fC S w w':=λ_ _ t _ _ w1 w' h1 h2=>zjh h1 h2
  by_cases hw:Region.wanted oi (yielded ops a.tmps)=true
  ·rw[if_pos hw]at h;obtain⟨v,h1,h2⟩:=h;have hy:QY P ops (fC S w) oi v a:=.inl ⟨hw,λu hu=>KY hk (h1 u hu)⟩;exact PT dQ (Av bQ) hQ Bh hT _ listed a w (Aq dQ hf) eZ hy hC (EU hl bQ hQ rest _ _ w bE h2)
  ·rw[if_neg hw]at h;have hy:QY P ops (fC S w) oi undef a:=.inr ⟨by simpa using hw,rfl⟩;exact PT dQ (Av bQ) hQ Bh hT _ listed a w (Aq dQ hf) eZ hy hC (EU hl bQ hQ rest _ _ w bE h)
 | (1,i)::rest,listed,a,w,hB,h=>by
  simp only[lX,ry,kI,Bool.not_eq_true']at hB;obtain⟨⟨⟨⟨⟨hr,hf⟩,hk⟩,bF⟩,LP⟩,bE⟩:=hB;have eZ:i∈Region.ready md ops listed:=by simpa using hr
  obtain⟨_,oi,dQ,_⟩:=mem_ready.1 eZ;rw[dQ]at hk;have hd:l.getD i default=oi:=by rw[hl]at dQ;simp at dQ;simp[List.getD,dQ]
  simp only[jL,hd,iO]at h;have Bh:∀w,DE S lates i w w:=λw=>by unfold DE;split;exact Fr.refl _ _;rfl
  have hT:∀listed:Array Bool,listed.getD i true=false->∀t∈Region.ready md ops listed,t≠i->∀w1 w',w1=w->DE S lates t w1 w'->w'=w:=λls kA t ht _ w1 w' h1 h2=>by
   unfold DE at h2;split at h2
   ·rename_i hc;exact (qxq (ER.1 LP t (by simpa using hc)) kA ht).elim
   ·rw[h2,h1]
  by_cases hw:Region.wanted oi (yielded ops a.tmps)=true
  ·rw[if_pos hw]at h;obtain⟨v,h1,h2⟩:=h;have hy:QY P ops (λu=>u=w) oi v a:=.inl ⟨hw,λu hu=>KY hk (h1 u hu)⟩;exact PT dQ (Av bQ) hQ Bh hT _ listed a w (Aq dQ hf) eZ hy rfl (EU hl bQ hQ rest _ _ w bE h2)
  ·rw[if_neg hw]at h;have hy:QY P ops (λu=>u=w) oi undef a:=.inr ⟨by simpa using hw,rfl⟩;exact PT dQ (Av bQ) hQ Bh hT _ listed a w (Aq dQ hf) eZ hy rfl (EU hl bQ hQ rest _ _ w bE h)
 | (_+2,i)::rest,listed,a,w,hB,h=>by
  simp only[lX,kI,decide_eq_true_eq]at hB;obtain⟨⟨he,bF⟩,bE⟩:=hB;have eZ:i∈Region.ready md ops listed:=by rw[he];simp
  obtain⟨_,oi,dQ,_⟩:=mem_ready.1 eZ;have hd:l.getD i default=oi:=by rw[hl]at dQ;simp at dQ;simp[List.getD,dQ]
  simp only[jL,hd,iO]at h;refine⟨λh0=>(by rw[h0]at eZ;cases eZ),λj hj=>?_⟩;rw[he]at hj;have jr:j=i:=by simpa using hj
  subst jr;unfold wpOp;simp only[dQ];by_cases hw:Region.wanted oi (yielded ops a.tmps)=true
  ·rw[if_pos hw]at h;rw[if_pos hw];left;exact Oper.wp_mono (λa' w' h'=>⟨by unfold DE;rw[if_pos bF];exact h'.1,EU hl bQ hQ rest _ a' w' bE h'.2⟩) h
  ·rw[if_neg hw]at h;rw[if_neg hw];exact⟨by unfold DE;rw[if_pos bF];exact Fr.refl _ _,EU hl bQ hQ rest _ _ w bE h⟩
theorem PV {id:Nat} {a:Act} {w:World} {l:List Oper} (order:List (Nat×Nat)) (S lates:LN) (hm:P.follows .mixedOrders=true)
  (hB:(Region.noSelect l.toArray&&decide (order.length=l.toArray.size)&&lX .any l.toArray lates order (Array.replicate l.toArray.size false))=true)
  (hQ:∀c a d v w,Q (.panic c) (Act.put a d v) w->Q (.panic c) a w)
  (h:iO P l.toArray S Q (order.map λx=>(x.1,l.getD x.2 default)) a w.drew):(Code.region id l.toArray true).wp P Q a w:=by
 simp only[kI,decide_eq_true_eq]at hB;obtain⟨⟨bQ,hlen⟩,rH⟩:=hB;refine wp_region_any hm (qlj (D:=DE S lates) _ _ _ _ ?_);have:=EU (P:=P) (Q:=Q) (md:=.any) (S:=S) (lates:=lates) rfl bQ hQ order _ a w.drew rH h;rw[hlen]at this;exact this
theorem Dp {S:LN} {items:List (Nat×Oper)} {a:Act} {w:World} (k:Nat) (h0:((items.take k).all λx=>decide (x.1=1))=true)
  (h:wpQuiet P ops (λu=>u=w) (λa'=>iO P ops S Q (items.drop k) a' w) ((items.take k).map (·.2)) a):iO P ops S Q items a w:=by
 induction k generalizing items a with
 | zero=>exact h
 | succ k ih=>
  cases items with
  | nil=>exact h
  | cons x rest=>
   obtain⟨e,o⟩:=x;simp only[lh,List.all_cons,kI,decide_eq_true_eq]at h0;obtain⟨rfl,h0⟩:=h0;simp only[lh,jL,nY,wpQuiet]at h;unfold iO;by_cases hw:Region.wanted o (yielded ops a.tmps)=true
   ·rw[if_pos hw]at h ⊢;obtain⟨v,h1,h2⟩:=h;exact⟨v,h1,ih h0 h2⟩
   ·rw[if_neg hw]at h ⊢;exact ih h0 h
theorem uj {S:LN} {items:List (Nat×Oper)} {a:Act} {w:World} (k:Nat) (h0:((items.take k).all λx=>decide (x.1=0))=true)
  (h:wpQuiet P ops (fC S w) (λa'=>iO P ops S Q (items.drop k) a' w) ((items.take k).map (·.2)) a):iO P ops S Q items a w:=by
 induction k generalizing items a with
 | zero=>exact h
 | succ k ih=>
  cases items with
  | nil=>exact h
  | cons x rest=>
   obtain⟨e,o⟩:=x;simp only[lh,List.all_cons,kI,decide_eq_true_eq]at h0;obtain⟨rfl,h0⟩:=h0;simp only[lh,jL,nY,wpQuiet]at h;unfold iO;by_cases hw:Region.wanted o (yielded ops a.tmps)=true
   ·rw[if_pos hw]at h ⊢;obtain⟨v,h1,h2⟩:=h;exact⟨v,h1,ih h0 h2⟩
   ·rw[if_neg hw]at h ⊢;exact ih h0 h
theorem Dj {S:LN} {rest:List (Nat×Oper)} {o:Oper} {a:Act} {w:World} (hw:Region.wanted o (yielded ops a.tmps)=true)
  (h:∀K:Act->World->Prop,Go.RowKit.Hid (∀a' w',Fr S w w'->iO P ops S Q rest a' w'->K a' w')->o.wp P a w K Q):iO P ops S Q ((2,o)::rest) a w:=by
 unfold iO;rw[if_pos hw];exact h _ λ_ _ h1 h2=>⟨h1,h2⟩
theorem Pm {S:LN} {a:Act} {w:World} (h:Q .normal a w):iO P ops S Q [] a w:=h
end
end lib
namespace pk
open Go
def hdF:Nat->Nat->Nat->List UInt8
 | 0,c,_=>[UInt8.ofNat c]
 | f+1,c,n=>if n=0 then [UInt8.ofNat c] else UInt8.ofNat (c+128)::hdF f (n%128) (n/128)
def hd (kind size:Nat):List UInt8:=hdF size (kind%8*16+size%16) (size/16)
def bkF:Nat->Nat->List UInt8
 | 0,_=>[]
 | f+1,m=>if m=0 then [] else UInt8.ofNat ((m-1)%128+128)::bkF f ((m-1)/128)
def bk (n:Nat):List UInt8:=UInt8.ofNat (n%128)::bkF n (n/128)
def vK (l:LB):Nat->Nat
 | 0=>0
 | i+1=>(if i=0 then 0 else (vK l i+1)*128)+(l[i]?.getD 0).toNat%128
theorem qwq {n:Nat} (h:n<256):(UInt8.ofNat n).toNat=n:=by simp[xd];omega
end pk
namespace bm
def num:List UInt8->Nat
 | []=>0
 | b::r=>b.toNat+256*num r
theorem Ij:∀bs:List UInt8,num bs<2^(8*bs.length)
 | []=>by simp[num]
 | b::r=>by
  have h:=Ij r;have hb:b.toNat<256:=b.toNat_lt;have e:2^(8*(b::r).length)=256*2^(8*r.length):=by rw[dw,yD,mB,pO]
  rw[e];simp only[num];omega
theorem qn8:∀a b:List UInt8,num (a++b)=num a+2^(8*a.length)*num b
 | [],b=>by simp[num]
 | x::a,b=>by
  have e:2^(8*(x::a).length)=256*2^(8*a.length):=by rw[dw,yD,mB,pO]
  rw[uo,num,num,qn8 a b,e,uq,yD,pP]
theorem zd2 (bs:LB) (i:Nat) (h:i<=bs.length):num bs/2^(8*i)=num (bs.drop i):=by have e:=qn8 (bs.take i) (bs.drop i);rw[BP]at e;have hl:=Ij (bs.take i);rw[fH,vP h]at e hl;rw[e,JY _ _ (mC _),Ib hl,iN]
theorem chunk (bs:LB) (a k:Nat) (h:a/8<bs.length) (hk:a%8+k<=8) :
  num bs/2^a%2^k=(bs.getD (a/8) 0).toNat/2^(a%8)%2^k:=by
 have e:num bs/2^a=num (bs.drop (a/8))/2^(a%8):=by rw[<-zd2 bs (a/8) (by omega),IE,<-mB,Hu]
 have hd:bs.drop (a/8)=bs[a/8]::bs.drop (a/8+1):=xg h;have hg:bs.getD (a/8) 0=bs[a/8]:=by simp[List.getD,h]
 rw[e,hd,hg,num];generalize num (bs.drop (a/8+1))=r;generalize (bs[a/8]).toNat=b;have Wp:256*r=2^(a%8)*(2^k*(2^(8-a%8-k)*r)):=by rw[<-uq,<-uq,<-mB,<-mB,show a%8+k+(8-a%8-k)=8 from by omega]
 rw[Wp,JY _ _ (mC _),Nat.add_mul_mod_self_left]
theorem more (x a i k:Nat):x/2^a%2^(i+k)=x/2^a%2^i+2^i*(x/2^(a+i)%2^k):=by rw[mB 2 i k,Nat.mod_mul,IE,<-mB]
def j8:Nat->Nat->List UInt8
 | 0,_=>[]
 | k+1,m=>UInt8.ofNat m::j8 k (m/256)
theorem PF:∀k m:Nat,(j8 k m).length=k
 | 0,_=>rfl
 | k+1,m=>by simp[j8,PF k]
theorem EC (k:Nat):2^(8*(k+1))=256*2^(8*k):=by rw[yD,mB,pO]
theorem Yv:∀k m:Nat,num (j8 k m)=m%2^(8*k)
 | 0,m=>by simp[j8,num,Nat.mod_one]
 | k+1,m=>by rw[j8,num,Yv k,EC,Nat.mod_mul];simp[xd]
theorem qua:∀k m x:Nat,j8 k (m+2^(8*k)*x)=j8 k m
 | 0,m,x=>rfl
 | k+1,m,x=>by
  rw[j8,j8,EC,uq];have h1:UInt8.ofNat (m+256*(2^(8*k)*x))=UInt8.ofNat m:=C9.1 (by simp[xd]);have h2:(m+256*(2^(8*k)*x))/256=m/256+2^(8*k)*x:=by omega
  rw[h1,h2,qua k]
theorem T6:∀k j m:Nat,j8 (k+j) m=j8 k m++j8 j (m/2^(8*k))
 | 0,j,m=>by simp[j8]
 | k+1,j,m=>by rw[Nat.add_right_comm,j8,j8,T6 k j,uo,IE,EC]
theorem YX (k m:Nat):j8 (k+1) m=j8 k m++[UInt8.ofNat (m/2^(8*k))]:=by rw[T6 k 1 m];simp[j8]
theorem O6:∀bs:List UInt8,j8 bs.length (num bs)=bs
 | []=>rfl
 | b::r=>by
  have hb:b.toNat<256:=b.toNat_lt;rw[dw,j8,num];have h1:UInt8.ofNat (b.toNat+256*num r)=b:=C9.1 (by rw[xd];omega);have h2:(b.toNat+256*num r)/256=num r:=by omega
  rw[h1,h2,O6 r]
theorem zhe {a b:LB} (hl:a.length=b.length) (h:num a=num b):a=b:=by rw[<-O6 a,<-O6 b,hl,h]
def jJ (v n:Nat):Nat->Nat
 | 0=>0
 | k+1=>jJ v n k+2^k*(v/2^(n-1-k)%2)
theorem zby (M L v n k:Nat):M+2^L*jJ v n k+2^(L+k)*(v/2^(n-1-k)%2)=M+2^L*jJ v n (k+1):=by rw[jJ,yD,mB,uq,pP]
theorem zg3 (q M:Nat) (bs:LB) (hM:M<2^(8*q)):j8 (q+bs.length) (M+2^(8*q)*num bs)=j8 q M++bs:=by rw[T6,qua,JY _ _ (mC _),Ib hM,iN,O6]
theorem Xs (q M:Nat) (bs:LB) (hM:M<2^(8*q)):M+2^(8*q)*num bs<2^(8*q+8*bs.length):=by
 have h:=Ij bs;rw[mB];calc M+2^(8*q)*num bs<2^(8*q)+2^(8*q)*num bs:=by omega
  _=2^(8*q)*(num bs+1):=by rw[yD,uG,Nat.add_comm]
  _<=2^(8*q)*2^(8*bs.length):=Nat.mul_le_mul_left _ h
open Go
theorem C2 (a b:Nat) (h:a<=b):2^a<=2^b:=lJ (by omega) h
theorem Ik (v m k:Nat) (hv:v<2^k):v ||| m*2^k=v+2^k*m:=by rw[Nat.or_comm,pO m,<-Nat.two_pow_add_eq_or_of_lt hv,Nat.add_comm]
theorem qr9 (q:Nat):((2:Int)^q-1)=((2^q-1:Nat):Int):=by have:=mC q;rw[Int.natCast_sub (by omega),Int.natCast_pow];rfl
theorem xb (q:Nat):((2:Int)^q)=((2^q:Nat):Int):=by rw[Int.natCast_pow];rfl
theorem Lf:2^32=4294967296:=by decide
theorem zc2 (x q:Nat) (hx:x<4294967296) (hq:q<=32):bits .and .u32 (x:Int) (((2:Int)^q-1)%4294967296)=((x%2^q:Nat):Int):=by
 have h1:=C2 q 32 hq;rw[Lf]at h1;have h2:=mC q;rw[qr9,show ((2^q-1:Nat):Int)%4294967296=((2^q-1:Nat):Int) from by omega,
  u32_and_nat x (2^q-1) hx (by omega),KN]
theorem zis {v m k q:Nat} (hm:m<2^q) (MP:k+q<=32):m*2^k<4294967296:=by have h1:=C2 (k+q) 32 MP;rw[Lf,mB]at h1;have h2:m*2^k<2^q*2^k:=Nat.mul_lt_mul_of_pos_right hm (mC k);rw[pO (2^q)]at h2;omega
theorem SA (v m k q:Nat) (hv:v<2^k) (hm:m<2^q) (MP:k+q<=32):bits .or .u32 (v:Int) ((m:Int)*2^k%4294967296)=((v+2^k*m:Nat):Int):=by
 have h3:=zis (v:=v) hm MP;have vX:v<4294967296:=by have:=C2 k 32 (by omega);rw[Lf]at this;omega
 rw[xb,<-Int.natCast_mul,show ((m*2^k:Nat):Int)%4294967296=((m*2^k:Nat):Int) from by omega,
  u32_or_nat v (m*2^k) vX h3,Ik v m k hv]
theorem qqi (bs:LB) (a k q vn bn:Nat) (bF:(a+k)/8<bs.length) (hq:(a+k)%8+q<=8) (MP:k+q<=32)
  (hv:num bs/2^a%2^k=vn) (hb:(bs.getD ((a+k)/8) 0).toNat=bn) :
  bits .or .u32 (vn:Int) (bits .and .u32 ((bn:Int)/2^((a+k)%8)) (((2:Int)^q-1)%4294967296)*2^k%4294967296)=((num bs/2^a%2^(k+q):Nat):Int):=by
 have qZ:bn<256:=by rw[<-hb];exact mW _
 have QM:bn/2^((a+k)%8)<4294967296:=Io (Nat.div_le_self _ _) (by omega);have hc:=chunk bs (a+k) q bF hq;rw[hb]at hc;rw[more,hv,hc,xb ((a+k)%8),<-Int.natCast_ediv,zc2 _ q QM (by omega),
  SA vn _ k q (by rw[<-hv];exact xS _ (mC _)) (xS _ (mC _)) MP]
theorem zc1 (x m:Nat) (hx:x<18446744073709551616) (hm:m<=32):bits .and .u64 (x:Int) (IntKind.u64.wrap (IntKind.u64.wrap ((2:Int)^m)-1))=((x%2^m:Nat):Int):=by
 have h1:=C2 m 32 hm;rw[Lf]at h1;have h2:=mC m;have e:IntKind.u64.wrap (IntKind.u64.wrap ((2:Int)^m)-1)=((2^m-1:Nat):Int):=by rw[IntKind.wrap_u64,IntKind.wrap_u64,xb];omega
 rw[e,u64_and_nat x (2^m-1) hx (by omega),KN]
theorem zgk (M L:Nat) (hM:M<2^L):M/2^(8*(L/8))<2^(L%8):=by rw[Dy (mC _),<-mB];rwa [show L%8+8*(L/8)=L from by omega]
theorem zg4 (M L y:Nat):(M+2^L*y)/2^(8*(L/8))=M/2^(8*(L/8))+2^(L%8)*y:=by
 have e:2^L=2^(8*(L/8))*2^(L%8):=by rw[<-mB,Hu]
 rw[e,uq,JY _ _ (mC _)]
theorem zii (M L x n:Nat) (hM:M<2^L):M+2^L*(x%2^n)<2^(L+n):=by
 have h:=xS x (mC n);rw[mB];calc M+2^L*(x%2^n)<2^L+2^L*(x%2^n):=by omega
  _=2^L*(x%2^n+1):=by rw[yD,uG,Nat.add_comm]
  _<=2^L*2^n:=Nat.mul_le_mul_left _ h
theorem zdq (M L x m:Nat) (hM:M<2^L) (hx:x<4294967296) (hm:m<=32) :
  bits .or .u64 ((M/2^(8*(L/8)):Nat):Int) (IntKind.u64.wrap (bits .and .u64 (x:Int) (IntKind.u64.wrap (IntKind.u64.wrap ((2:Int)^m)-1))*2^(L%8))) =
   (((M+2^L*(x%2^m))/2^(8*(L/8)):Nat):Int):=by
 have hw:=zgk M L hM;have hy:x%2^m<2^m:=xS _ (mC m);have LF:x%2^m<4294967296:=Io (Nat.mod_le _ _) hx;have h8:=C2 (L%8) 8 (by omega);have hp:x%2^m*2^(L%8)<=4294967296*256:=Hk (by omega) h8;rw[zc1 x m (by omega) hm,zg4,xb,<-Int.natCast_mul,IntKind.wrap_u64,
  show ((x%2^m*2^(L%8):Nat):Int)%18446744073709551616=((x%2^m*2^(L%8):Nat):Int) from by omega,
  u64_or_nat _ _ (by omega) (by omega),Ik _ _ _ hw]
theorem zeu (x:Int) (k:Nat) (hk:k<=62):bits .and .i64 x ((2^k-1:Nat):Int)=x%2^k:=by
 have h1:=C2 k 62 hk;have h2:=mC k;have Wo:2^62=4611686018427387904:=by decide
 rw[Wo]at h1;have hx:(BitVec.ofInt 64 x).toNat=(x%18446744073709551616).toNat:=by rw[BitVec.toNat_ofInt];rfl
 have hm:(BitVec.ofInt 64 ((2^k-1:Nat):Int)).toNat=2^k-1:=by rw[BitVec.ofInt_natCast,BitVec.toNat_ofNat];exact Ic (by omega)
 show IntKind.i64.wrap ((BitVec.ofInt 64 x &&& BitVec.ofInt 64 ((2^k-1:Nat):Int)).toNat:Int)=_;rw[BitVec.toNat_and,hx,hm,KN];have h3:(x%18446744073709551616).toNat%2^k<2^k:=xS _ h2;have h4:(0:Int)<=x%18446744073709551616:=Int.emod_nonneg _ (by decide);have h5:(((x%18446744073709551616).toNat%2^k:Nat):Int)=x%2^k:=by
  rw[Int.natCast_emod,Int.toNat_of_nonneg h4,Int.natCast_pow];have hd:((2^k:Nat):Int)∣18446744073709551616:=by refine⟨((2^(64-k):Nat):Int),?_⟩;rw[<-Int.natCast_mul,<-mB,show k+(64-k)=64 from by omega];decide
  rw[Int.natCast_pow]at hd;exact Int.emod_emod_of_dvd x hd
 rw[h5,xe];have h6:(0:Int)<=x%2^k:=Int.emod_nonneg _ (by rw[xb];omega);have h7:x%2^k<2^k:=Int.emod_lt_of_pos _ (by rw[xb];omega);rw[xb]at h7;rw[xb]at h6 ⊢;omega
open Go.RowKit
theorem Z7 (a:Nat) (ha:a<9223372036854775808):(BitVec.ofInt 64 (a:Int)).toNat=a:=by rw[BitVec.ofInt_natCast,BitVec.toNat_ofNat];exact Ic (by omega)
theorem qof (a b:Nat) (ha:a<9223372036854775808) (hb:b<9223372036854775808):bits .or .i64 (a:Int) (b:Int)=((a ||| b:Nat):Int):=by
 have hx:a ||| b<2^63:=Nat.or_lt_two_pow (by omega) (by omega)
 show IntKind.i64.wrap ((BitVec.ofInt 64 (a:Int) ||| BitVec.ofInt 64 (b:Int)).toNat:Int)=_;rw[BitVec.toNat_or,Z7 a ha,Z7 b hb,xe];omega
theorem XP (n v k:Nat) (hk:k<=62) (hv:v<2^k) (hn:n*2^k<9223372036854775808):bits .or .i64 ((n:Int)*((2^k:Nat):Int)) (v:Int)=((n*2^k+v:Nat):Int):=by
 have h1:=C2 k 62 hk;have Wo:2^62=4611686018427387904:=by decide
 rw[Wo]at h1;rw[<-Int.natCast_mul,qof _ _ hn (by omega),Nat.or_comm,Ik v n k hv,pO n,Nat.add_comm]
end bm
namespace pk
open Go Go.RowKit lib bm
theorem aE:aw Tryz.prog 35 5 (.int .u8 0) 1 1:=aw.of Tryz.underlying35 (by kernel_rfl) rfl (by decide)
theorem qI (bs:LB):∀u∈bs.map bv,u.oneCell'=true:=by intro u hu;obtain⟨b,_,rfl⟩:=mU.1 hu;rfl
structure Wr (w wr:World) (a:OA) (c:Nat) (out:LB):Prop where
 own:wr.ownsRow 0 5 1 (.slice a out.length c) out.length (out.map bv)
 fr:Fr [] w wr
 new:∀x∈ag a,w.heap.size<=x
theorem Wr.step {w wr w1 w2:World} {a a2:OA} {c c2:Nat} {out:LB} {x:UInt8} (h:Wr w wr a c out) (f:Fr [] wr w1) (A:aN w1 w2 5 1 (ag a) a2 (out.length+1) c2 (out.map bv++[bv x])):Wr w w2 a2 c2 (out++[x]):=by
 refine⟨by rw[aG,jd];exact A.own,(h.fr.trans f).step A.fr λy hy=>.inr (h.new y hy),λy hy=>?_⟩;rcases A.at_ y hy with h1|h1
 ·exact h.new y h1
 ·have:=(h.fr.trans f).size;omega
theorem J2 (ao:OA) (len cap:Nat) (w:World) (hle:len<=cap) (dE:cap<=maxLen) :
  Calls Tryz.prog 79 #[.slice ao len cap] w λe w'=>e = .returned (.slice ao len len)/\w'=w:=by
 go_enter Tryz.func79,Tryz.ntmps79;go_wp2;all_goals go_ret
 all_goals exact⟨by first|rfl|simp,rfl⟩
def r9 (w:World) (bs:LB) (e:Ending) (w':World):Prop:=
 ∃ao cap,e = .returned (.slice ao bs.length cap)/\lib.Rd w' ao cap bs/\bs.length<=cap/\cap<=maxLen/\(∀x∈ag ao,w.heap.size<=x/\x<w'.heap.size)/\Fr [] w w'
theorem XO (ao:OA) (cap:Nat) (bs:LB) (w:World) (h:lib.Rd w ao cap bs) (tJ:bs.length<=140737488355328) :
  Calls Tryz.prog 109 #[.slice ao bs.length cap] w (r9 w bs):=by
 have qT:∀(w:World) (a:OA) (n c n' c':Nat),(binOp .eql 35 (.slice a n c) (.slice none n' c')).run Tryz.prog w = .ok (.bool a.isNone) w:=λw a n c n' c'=>Lib.run_eql_slice_nil w _ _ a n c n' c' Tryz.underlying35
 have hcs:=h.cs;have hle:=h.le;have bU:=h.nil;have bF:=h;cases ao with
 | none=>
  have h0:=bU rfl;obtain rfl:bs=[]:=sr (by omega);go_enter Tryz.func109,Tryz.ntmps109;go_wp2;go_ret;exact⟨none,0,rfl,⟨.inl rfl,by simp,by decide,λ_=>rfl⟩,by simp,by decide,by simp[ag],Fr.refl _ _⟩
 | some a=>
  go_enter Tryz.func109,Tryz.ntmps109;go_wp2_with (refine fq aE rfl _ _ rfl (.slice (some ⟨w.heap.size,0,none⟩) 0 0) 0 [] [w.heap.size] rfl rfl ⟨rfl,.inr ⟨w.heap.size,0,#[],rfl,eE _,aV _ _,ax _,eE _,rfl,rfl⟩⟩ (some a) bs.length cap (bs.map bv) rfl hle bU (hcs.fr ((Fr.refl [] w).alloc _) (by simp)) (by simp) (qI bs) (by omega) (by unfold maxLen;omega) ?_;intro j9 gh w1 A1;simp only[iN,sS]at A1);go_ret;have ft:Fr [] w w1:=((Fr.refl [] w).alloc _).step A1.fr (by simp);have hb:∀x∈ag j9,w.heap.size<=x/\x<w1.heap.size:=λx hx=>⟨by have:=A1.at_ x hx;simp at this;omega,A1.lt x hx⟩
  exact⟨j9,gh,rfl,⟨qK A1.own,A1.le,A1.max,A1.nil⟩,A1.le,A1.max,hb,ft⟩
end pk
namespace crc
open Go
def Uw:Nat:=3988292384
def st (c:Nat):Nat:=if c%2=1 then (c/2) ^^^ Uw else c/2
def RR:Nat->Nat->Nat
 | 0,c=>c
 | k+1,c=>RR k (st c)
def tb (i:Nat):Nat:=RR 8 i
def inb (c:Nat) (b:UInt8):Nat:=RR 8 (c ^^^ b.toNat)
def Wx (bs:LB):Nat:=bs.foldl inb 4294967295
def crc (bs:LB):Nat:=4294967295-Wx bs
open Go.RowKit lib bm
theorem BH (bs:LB) {i:Nat} (hi:i<bs.length) (w:World):(Instr.index 9 (.string (str bs)) (.int .i64 i)).run Tryz.prog w = .ok (.int .u8 ((bs[i].toNat:Nat):Int)) w:=by
 have hs:(str bs).size=bs.length:=by simp[str,ByteArray.size]
 have e:=run_index_string (P:=Tryz.prog) w 9 (str bs) .i64 i Tryz.underlying9;rw[dif_pos ⟨by omega,by rw[hs];omega⟩]at e;simp only[xZ]at e;have h2:(str bs)[i]'(by rw[hs];exact hi)=bs[i]:=by show bs.toArray[i]'(by simpa using hi)=bs[i];simp
 rw[h2]at e;exact e
end crc
namespace wd
open Go Go.RowKit lib
def jn:List UInt8:=[48,49,50,51,52,53,54,55,56,57]
end wd
namespace bl
open Go bm
def rh (b:Bool):Nat:=if b then 1 else 0
def cz:List Bool->Nat
 | []=>0
 | b::t=>rh b+2*cz t
theorem JZ (b:Bool):rh b<2:=by cases b<;>decide
theorem DC:∀a b:List Bool,cz (a++b)=cz a+2^a.length*cz b
 | [],b=>by simp[cz]
 | x::a,b=>by rw[uo,cz,cz,DC a b,dw,qJ];generalize 2^a.length=p;rw[pO p 2,uq];generalize p*cz b=q;omega
theorem Se:∀l:List Bool,cz l<2^l.length
 | []=>by simp[cz]
 | x::l=>by have:=Se l;have:=JZ x;rw[cz,dw,qJ];omega
theorem zh4 {a b:Bool} (h:rh a=rh b):a=b:=by cases a<;>cases b<;>simp_all [rh]
theorem YR:∀{a b:List Bool},a.length=b.length->cz a=cz b->a=b
 | [],[],_,_=>rfl
 | [],_::_,h,_=>by simp at h
 | _::_,[],h,_=>by simp at h
 | x::a,y::b,h,hv=>by rw[cz,cz]at hv;have hx:=JZ x;have hy:=JZ y;rw[zh4 (show rh x=rh y by omega),YR (by simpa using h) (show cz a=cz b by omega)]
def dA:Nat->Nat->List Bool
 | 0,_=>[]
 | n+1,x=>(x%2==1)::dA n (x/2)
theorem ar:∀n x:Nat,(dA n x).length=n
 | 0,_=>rfl
 | n+1,x=>by rw[dA,dw,ar]
theorem Sc (x:Nat):rh (x%2==1)=x%2:=by rcases Nat.mod_two_eq_zero_or_one x with h|h<;>rw[h]<;>rfl
theorem Pc:∀n x:Nat,cz (dA n x)=x%2^n
 | 0,x=>by simp[dA,cz,Nat.mod_one]
 | n+1,x=>by rw[dA,cz,Pc n,Sc,qJ,pO (2^n),Nat.mod_mul]
theorem qos:∀n:Nat,cz (List.replicate n false)=0
 | 0=>rfl
 | n+1=>by rw[List.replicate_succ,cz,qos n];rfl
def msb (n x:Nat):List Bool:=(dA n x).reverse
theorem Dq (n x:Nat):(msb n x).length=n:=by rw[msb,List.length_reverse,ar]
theorem Sj:∀(n x i:Nat) (h:i<(dA n x).length),(dA n x)[i]=(x/2^i%2==1)
 | 0,x,i,h=>by simp[dA]at h
 | n+1,x,0,_=>by simp[dA]
 | n+1,x,i+1,h=>by simp only[dA,List.getElem_cons_succ];rw[Sj n (x/2) i,IE,qJ,pO 2]
theorem Z5 (x n:Nat):∀k,k<=n->cz ((msb n x).take k)=jJ x n k
 | 0,_=>by simp[cz,jJ]
 | k+1,h=>by
  have hl:k<(msb n x).length:=by rw[Dq];omega
  rw[x7 hl,DC,Z5 x n k (by omega),fH,Dq,vP (by omega),jJ];congr 2;have e:(msb n x)[k]=(x/2^(n-1-k)%2==1):=by simp only[msb,List.getElem_reverse,ar];rw[Sj]
  rw[e,cz,cz,Nat.mul_zero,pN,Sc]
theorem zfp (n x:Nat):cz (msb n x)=jJ x n n:=by have:=Z5 x n n (ax _);rwa [lL (by rw[Dq];exact ax _)]at this
def ak (bs:LB):List Bool:=bs.flatMap λc=>dA 8 c.toNat
theorem K7 (c:UInt8) (bs:LB):ak (c::bs)=dA 8 c.toNat++ak bs:=rfl
theorem qkv (a b:LB):ak (a++b)=ak a++ak b:=by unfold ak;rw[yQ]
theorem su:∀bs:List UInt8,(ak bs).length=8*bs.length
 | []=>rfl
 | c::bs=>by rw[K7,aG,ar,su bs,dw];omega
theorem IK:∀bs:List UInt8,cz (ak bs)=num bs
 | []=>rfl
 | c::bs=>by have:=mW c;rw[K7,DC,ar,IK bs,Pc,num,Ic (by omega)]
def pad (n:Nat):Nat:=(8-n%8)%8
def eG (l:List Bool):List Bool:=l++List.replicate (pad l.length) false
theorem I0 (l:List Bool):(eG l).length=(l.length+7)/8*8:=by unfold eG pad;rw[aG,yP];omega
theorem YS (l:List Bool):cz (eG l)=cz l:=by unfold eG;rw[DC,qos];omega
def bytesOf (l:List Bool):List UInt8:=j8 ((l.length+7)/8) (cz l)
theorem BQ (l:List Bool):(bytesOf l).length=(l.length+7)/8:=PF _ _
theorem qsc (l:List Bool):ak (bytesOf l)=eG l:=by
 refine YR ?_ ?_
 ·rw[su,BQ,I0];omega
 ·have h1:=Se l;have h2:2^l.length<=2^(8*((l.length+7)/8)):=lJ (by decide) (by omega);rw[IK,YS,bytesOf,Yv,Ic (by omega)]
theorem qzr (l:List Bool) (h:l.length%8=0):eG l=l:=by unfold eG pad;rw[h];simp
theorem qp8 {a b:LB} (h:ak a=ak b):a=b:=by
 have hl:a.length=b.length:=by have:=congrArg List.length h;rw[su,su]at this;omega
 exact zhe hl (by rw[<-IK,<-IK,h])
end bl
namespace huf
open Go bm bl
variable {f i j n v:Nat} {ls:LN}
def ae (ls:LN) (i:Nat):Nat:=ls[i]?.getD 0
def gJ (ls:LN):Nat->Nat
 | 0=>0
 | l+1=>2*(gJ ls l+if l=0 then 0 else ls.count l)
def code (ls:LN) (i:Nat):Nat:=gJ ls (ae ls i)+(ls.take i).count (ae ls i)
def share (ls:LN):Nat->Nat
 | 0=>0
 | l+1=>share ls l+if l=0 then 0 else ls.count l*2^(15-l)
def weight:List Nat->Nat
 | []=>0
 | l::t=>(if l=0 then 0 else 2^(15-l))+weight t
theorem Td (ls:LN):∀l,l<=15->gJ ls l*2^(15-l)=share ls l
 | 0,_=>by simp[gJ,share]
 | l+1,h=>by
  have ih:=Td ls l (by omega);have e:2^(15-l)=2*2^(15-(l+1)):=by rw[show 15-l=15-(l+1)+1 from by omega,qJ,pO]
  rw[gJ,share,<-ih,e];generalize 2^(15-(l+1))=p;split<;>simp only[yD,oD,pN,uq,Nat.mul_left_comm]
theorem qny (x:Nat) (t:LN):∀m,share (x::t) m=share t m+if 0<x/\x<m then 2^(15-x) else 0
 | 0=>by simp[share]
 | m+1=>by
  rw[share,share,qny x t m,List.count_cons];by_cases h0:m=0
  ·subst h0;simp only[if_true];rw[if_neg (by omega),if_neg (by omega)]
  ·rw[if_neg h0,if_neg h0];by_cases hx:x=m
   ·subst hx;simp only[beq_self_eq_true,if_true];rw[if_neg (by omega),if_pos (by omega),oD,CX];omega
   ·have hb:(x==m)=false:=by simpa using hx
    rw[hb];simp only[Bool.false_eq_true,if_false,pN];by_cases hc:0<x/\x<m
    ·rw[if_pos hc,if_pos (by omega)];omega
    ·rw[if_neg hc,if_neg (by omega)];omega
theorem qqr:∀m,share [] m=0
 | 0=>rfl
 | m+1=>by rw[share,qqr m];simp
theorem Us:∀ls:List Nat,(∀l∈ls,l<=15)->share ls 16=weight ls
 | [],_=>qqr 16
 | x::t,h=>by
  have hx:=h x (by simp);rw[qny,weight,Us t λl hl=>h l (by simp[hl])];by_cases h0:x=0
  ·rw[if_neg (by omega),if_pos h0];omega
  ·rw[if_pos (by omega),if_neg h0];omega
theorem qnx (ls:LN):∀(k l:Nat),share ls l<=share ls (l+k)
 | 0,_=>ax _
 | k+1,l=>by have:=qnx ls k l;rw[<-pP,share];omega
theorem SW (ls:LN) {l m:Nat} (h:l<=m):share ls l<=share ls m:=by obtain⟨k,rfl⟩:∃k,m=l+k:=⟨m-l,by omega⟩;exact qnx ls k l
theorem xU (h:0<ae ls i):i<ls.length:=by
 unfold ae at h;rcases kT i ls.length with k|k
 ·exact k
 ·rw[sq k]at h;simp at h
theorem Dh (h:i<ls.length):ae ls i∈ls:=by unfold ae;rw[dm h];exact sk h
theorem P8 (ls:LN) (i x:Nat) (h:i<ls.length):(ls.take (i+1)).count x=(ls.take i).count x+if ae ls i=x then 1 else 0:=by rw[x7 h,Df,List.count_singleton];unfold ae;rw[dm h];simp only[ES,beq_iff_eq]
theorem qp7 (ls:LN) (i x:Nat):(ls.take i).count x<=ls.count x:=(List.take_sublist i ls).count_le x
theorem qm5 (ls:LN) (x:Nat) (h:i<=j):(ls.take i).count x<=(ls.take j).count x:=by
 have:ls.take i=(ls.take j).take i:=by rw[EM,vP h]
 rw[this];exact (List.take_sublist i (ls.take j)).count_le x
def lo (ls:LN) (i:Nat):Nat:=code ls i*2^(15-ae ls i)
theorem WY (ls:LN) (i:Nat) (h:ae ls i<=15):lo ls i=share ls (ae ls i)+(ls.take i).count (ae ls i)*2^(15-ae ls i):=by rw[lo,code,oD,Td ls _ h]
theorem Xa (ls:LN) (i:Nat) (h0:0<ae ls i) (h:ae ls i<=15):lo ls i+2^(15-ae ls i)<=share ls (ae ls i+1):=by have hi:=xU h0;have h1:=P8 ls i (ae ls i) hi;rw[if_pos rfl]at h1;have h2:=qp7 ls (i+1) (ae ls i);rw[WY ls i h,share,if_neg (by omega)];have h3:((ls.take i).count (ae ls i)+1)*2^(15-ae ls i)<=ls.count (ae ls i)*2^(15-ae ls i):=Aw _ (by omega);rw[oD,CX]at h3;omega
theorem zeg (ls:LN) (h0:0<ae ls i) (h:ae ls i<ae ls j) (hj:ae ls j<=15):lo ls i+2^(15-ae ls i)<=lo ls j:=by have h1:=Xa ls i h0 (by omega);have h2:=SW ls (show ae ls i+1<=ae ls j from h);have h3:=WY ls j hj;omega
theorem zfl (ls:LN) (h0:0<ae ls i) (h:ae ls i=ae ls j) (hc:code ls i=code ls j):i=j:=by
 have key:∀{i j:Nat},0<ae ls i->ae ls i=ae ls j->code ls i=code ls j->¬i<j:=λ{i j} h0 h hc oe=>by have h1:=P8 ls i (ae ls i) (xU h0);rw[if_pos rfl]at h1;have h2:=qm5 ls (ae ls i) (show i+1<=j from oe);unfold code at hc;rw[<-h]at hc;omega
 rcases Nat.lt_trichotomy i j with k|k|k
 ·exact absurd k (key h0 h hc)
 ·exact k
 ·exact absurd k (key (by omega) h.symm hc.symm)
theorem XE (ls:LN) (i:Nat) (hle:∀l∈ls,l<=15) (hw:weight ls<=32768) (h0:0<ae ls i):code ls i<2^ae ls i:=by
 have pX:=hle _ (Dh (xU h0));have h1:=Xa ls i h0 pX;have h2:=SW ls (show ae ls i+1<=16 by omega);rw[Us ls hle]at h2;unfold lo at h1;have e:2^15=2^ae ls i*2^(15-ae ls i):=by rw[<-mB];congr 1;omega
 have h3:(code ls i+1)*2^(15-ae ls i)<=2^ae ls i*2^(15-ae ls i):=by rw[<-e,oD,CX];exact bP (bP h1 h2) hw
 have:=Nat.le_of_mul_le_mul_right h3 (mC _);omega
def gU (ls:LN) (n v:Nat):Option Nat:=(List.range ls.length).find? λi=>decide (0<n)&&(ae ls i==n&&code ls i==v)
def eU (ls:LN) (n v:Nat):Bool:=(List.range ls.length).any λi=>decide (n<ae ls i)&&code ls i/2^(ae ls i-n)==v
def bT (ls:LN):Nat->Nat->Nat->List Bool->Nat×Nat×Nat
 | 0,n,v,_=>match gU ls n v with
  | some s=>(s,n,0)
  | none=>(0,n,3)
 | f+1,n,v,bits=>match gU ls n v with
  | some s=>(s,n,0)
  | none=>if eU ls n v then (match bits with
   | []=>(0,n,4)
   | b::t=>bT ls f (n+1) (2*v+rh b) t) else (0,n,3)
theorem IG {s:Nat} {bits:List Bool} (h:gU ls n v=some s):bT ls f n v bits=(s,n,0):=by cases f<;>simp[bT,h]
theorem PG {b:Bool} {t:List Bool} (h:gU ls n v=none) (hm:eU ls n v=true):bT ls (f+1) n v (b::t)=bT ls f (n+1) (2*v+rh b) t:=by simp[bT,h,hm]
theorem Ua (h:gU ls n v=none) (hm:eU ls n v=true):bT ls (f+1) n v []=(0,n,4):=by simp[bT,h,hm]
theorem T8 {bits:List Bool} (h:gU ls n v=none) (hm:eU ls n v=false):bT ls f n v bits=(0,n,3):=by cases f<;>simp[bT,h,hm]
theorem S5 {bits:List Bool} (h:gU ls n v=none):bT ls 0 n v bits=(0,n,3):=by simp[bT,h]
theorem X6 (ls:LN) (s:Nat) (h0:0<ae ls s):gU ls (ae ls s) (code ls s)=some s:=by
 unfold gU;cases hf:(List.range ls.length).find? λi=>decide (0<ae ls s)&&(ae ls i==ae ls s&&code ls i==code ls s) with
 | none=>
  have:=List.find?_eq_none.1 hf s (uH.2 (xU h0));simp[h0]at this
 | some i=>have h1:=List.find?_some hf;simp only[kI,decide_eq_true_eq,beq_iff_eq]at h1;rw[zfl ls (by omega) h1.2.1 h1.2.2]
theorem qxt (ls:LN) (s n:Nat) (h0:0<ae ls s) (pX:ae ls s<=15) (hn:n<ae ls s):gU ls n (code ls s/2^(ae ls s-n))=none:=by
 unfold gU;refine List.find?_eq_none.2 λi _=>?_
 simp only[kI,decide_eq_true_eq,beq_iff_eq,not_and];intro FT hi hc;have h1:=zeg ls (i:=i) (j:=s) (by omega) (by omega) pX;unfold lo at h1;rw[hi,hc]at h1;have e:2^(15-n)=2^(ae ls s-n)*2^(15-ae ls s):=by rw[<-mB];congr 1;omega
 rw[e]at h1;have h2:(code ls s/2^(ae ls s-n)+1)*2^(ae ls s-n)*2^(15-ae ls s)<=code ls s*2^(15-ae ls s):=by rw[oD,CX,oD,uq];exact h1
 have h3:=Nat.le_of_mul_le_mul_right h2 (mC _);have h4:=Nat.lt_div_mul_add (a:=code ls s) (mC (ae ls s-n));rw[oD,CX]at h3;omega
theorem qt2 (ls:LN) (s n:Nat) (hn:n<ae ls s):eU ls n (code ls s/2^(ae ls s-n))=true:=by unfold eU;refine Hz.2 ⟨s,uH.2 (xU (by omega)),?_⟩;simp[hn]
theorem qog (ls:LN) (s:Nat) (hle:∀l∈ls,l<=15) (h0:0<ae ls s) (rest:List Bool):∀(k f n:Nat),n+k=ae ls s->ae ls s<=n+f->
  bT ls f n (code ls s/2^(ae ls s-n)) ((msb (ae ls s) (code ls s)).drop n++rest)=(s,ae ls s,0)
 | 0,f,n,h1,h2=>by
  obtain rfl:n=ae ls s:=by omega
  rw[Nat.sub_self,Nat.pow_zero,Nat.div_one];exact IG (X6 ls s h0)
 | k+1,f,n,h1,h2=>by
  have pX:=hle _ (Dh (xU h0));obtain⟨f,rfl⟩:∃g,f=g+1:=⟨f-1,by omega⟩;have hl:n<(msb (ae ls s) (code ls s)).length:=by rw[Dq];omega
  have hb:(msb (ae ls s) (code ls s))[n]=(code ls s/2^(ae ls s-1-n)%2==1):=by simp only[msb,List.getElem_reverse,ar];rw[Sj]
  rw[xg hl,uo,PG (qxt ls s n h0 pX (by omega)) (qt2 ls s n (by omega))];have hv:2*(code ls s/2^(ae ls s-n))+rh (msb (ae ls s) (code ls s))[n]=code ls s/2^(ae ls s-(n+1)):=by rw[hb,Sc,show ae ls s-n=ae ls s-(n+1)+1 from by omega,show ae ls s-1-n=ae ls s-(n+1) from by omega,qJ,<-IE];omega
  rw[hv];exact qog ls s hle h0 rest k f (n+1) (by omega) (by omega)
def read (ls:LN) (bits:List Bool):Nat×Nat×Nat:=bT ls 15 0 0 bits
theorem qzk (ls:LN) (s:Nat) (hle:∀l∈ls,l<=15) (hw:weight ls<=32768) (h0:0<ae ls s) (rest:List Bool):read ls (msb (ae ls s) (code ls s)++rest)=(s,ae ls s,0):=by have pX:=hle _ (Dh (xU h0));have:=qog ls s hle h0 rest (ae ls s) 15 0 (by omega) (by omega);rw[CY,Ib (XE ls s hle hw h0),nE]at this;exact this
end huf
namespace huf
open Go
variable {ls:LN} {l n s v:Nat}
def syms (ls:LN) (l i:Nat):List Nat:=(List.range i).filter λj=>ae ls j==l
theorem Ts (ls:LN) (l:Nat):syms ls l 0=[]:=rfl
theorem Tr (ls:LN) (l i:Nat):syms ls l (i+1)=syms ls l i++if ae ls i=l then [i] else []:=by
 unfold syms;rw[List.range_succ,Dt];by_cases h:ae ls i=l
 ·simp[h]
 ·simp[h]
theorem Uk (ls:LN) (l:Nat):∀i,i<=ls.length->(syms ls l i).length=(ls.take i).count l
 | 0,_=>by simp[Ts]
 | i+1,h=>by rw[Tr,aG,Uk ls l i (by omega),P8 ls i l (by omega)];split<;>simp
theorem SX (ls:LN) (l:Nat):∀(i:Nat),i<=ls.length->∀(t s:Nat),(syms ls l i)[t]?=some s->ae ls s=l/\(ls.take s).count l=t/\s<i
 | 0,_,t,s,h=>by simp[Ts]at h
 | i+1,hi,t,s,h=>by
  rw[Tr,List.getElem?_append]at h;split at h
  ·have:=SX ls l i (by omega) t s h;exact⟨this.1,this.2.1,by omega⟩
  ·rename_i bF;split at h
   ·rename_i hl;have ht:t-(syms ls l i).length=0:=by have:=(nF.1 h).1;simp at this;omega
    rw[ht]at h;simp at h;subst h;have:=Uk ls l i (by omega);exact⟨hl,by omega,by omega⟩
   ·simp at h
theorem qqj {t:Nat} (h:(syms ls l ls.length)[t]?=some s):ae ls s=l/\code ls s=gJ ls l+t/\s<ls.length:=by obtain⟨h1,h2,h3⟩:=SX ls l ls.length (ax _) t s h;exact⟨h1,by unfold code;rw[h1,h2],h3⟩
theorem ZC (hs:s<ls.length):(syms ls (ae ls s) ls.length)[(ls.take s).count (ae ls s)]?=some s:=by
 have fD:s∈syms ls (ae ls s) ls.length:=by simp[syms,hs]
 obtain⟨t,ht,e⟩:=List.getElem_of_mem fD;have h2:=(SX ls _ ls.length (ax _) t s (by rw[dm ht,e])).2.1;rw[h2,dm ht,e]
theorem zay (hn:0<n) (hv:gJ ls n<=v) (h:(syms ls n ls.length)[v-gJ ls n]?=some s):gU ls n v=some s:=by
 obtain⟨h1,h2,h3⟩:=qqj h;have hc:code ls s=v:=by omega
 have:=X6 ls s (by omega);rw[h1,hc]at this;exact this
theorem zaz (h:n=0\/v<gJ ls n\/(syms ls n ls.length).length<=v-gJ ls n):gU ls n v=none:=by
 unfold gU;rw[List.find?_eq_none];intro s hs hp;simp only[uH]at hs;simp only[kI,decide_eq_true_eq,beq_iff_eq]at hp;obtain⟨h0,h1,h2⟩:=hp;have hg:=ZC hs;rw[h1]at hg;have bF:=(nF.1 hg).1;have hc:code ls s=gJ ls n+(ls.take s).count n:=by unfold code;rw[h1]
 omega
def meets (ls:LN) (n v l:Nat):Bool:=decide (0<(syms ls l ls.length).length)&&(decide (gJ ls l<(v+1)*2^(l-n))&&decide (v*2^(l-n)<gJ ls l+(syms ls l ls.length).length))
theorem qxi (hl:n<l) (h:meets ls n v l=true):eU ls n v=true:=by
 simp only[meets,kI,decide_eq_true_eq]at h;obtain⟨h0,h1,h2⟩:=h;have hp:0<2^(l-n):=mC _;obtain⟨t,ht,Fy⟩:∃t,t<(syms ls l ls.length).length/\(gJ ls l+t)/2^(l-n)=v:=by
  by_cases hc:v*2^(l-n)<=gJ ls l
  ·exact⟨0,h0,by rw[pN];exact Nat.div_eq_of_lt_le hc h1⟩
  ·refine⟨v*2^(l-n)-gJ ls l,by omega,?_⟩;rw[show gJ ls l+(v*2^(l-n)-gJ ls l)=v*2^(l-n) by omega];exact Nat.mul_div_cancel _ hp
 obtain⟨s,hs⟩:∃s,(syms ls l ls.length)[t]?=some s:=⟨_,dm ht⟩;obtain⟨k1,k2,k3⟩:=qqj hs;unfold eU;rw[Hz];refine⟨s,uH.2 k3,?_⟩;simp only[kI,decide_eq_true_eq,beq_iff_eq];rw[k1,k2];exact⟨hl,Fy⟩
theorem qts {m:Nat} (hm:∀s,s<ls.length->ae ls s<=m) (h:∀l,n<l->l<=m->meets ls n v l=false):eU ls n v=false:=by
 unfold eU;rw[List.any_eq_false];intro s hs hp;simp only[uH]at hs;simp only[kI,decide_eq_true_eq,beq_iff_eq]at hp;obtain⟨h1,h2⟩:=hp;have hx:=h (ae ls s) h1 (hm s hs);have hg:=ZC hs;have bF:=(nF.1 hg).1;have hc:code ls s=gJ ls (ae ls s)+(ls.take s).count (ae ls s):=rfl;have hp:0<2^(ae ls s-n):=mC _;have oX:v*2^(ae ls s-n)<=code ls s:=by rw[<-h2];exact Nat.div_mul_le_self _ _
 have Qz:code ls s<(v+1)*2^(ae ls s-n):=(Dy hp).1 (by rw[h2];exact Nat.lt_succ_self v);have:meets ls n v (ae ls s)=true:=by simp only[meets,kI,decide_eq_true_eq];exact⟨by omega,by omega,by omega⟩
 rw[this]at hx;cases hx
end huf
namespace bl
open Go bm
theorem qot (l:List Bool) (k:Nat) (h:k<=l.length):cz l=cz (l.take k)+2^k*cz (l.drop k):=by have h1:=DC (l.take k) (l.drop k);rw[BP,fH,vP h]at h1;exact h1
theorem P4 (l:List Bool) (k:Nat):cz (l.take k)<2^k:=by have h1:=Se (l.take k);have h2:2^(l.take k).length<=2^k:=lJ (by decide) (by rw[fH];omega);omega
theorem zb9 (l:List Bool) (k:Nat) (h:k<=l.length):cz l/2^k=cz (l.drop k):=by rw[qot l k h,JY _ _ (mC k),Ib (P4 l k),iN]
theorem zb8 (l:List Bool) (k:Nat) (h:k<=l.length):cz l%2^k=cz (l.take k):=by rw[qot l k h,Nat.add_mul_mod_self_left,Ic (P4 l k)]
theorem zd3 (bs:LB) (a n:Nat) (h:a+n<=8*bs.length):num bs/2^a%2^n=cz (((ak bs).drop a).take n):=by rw[<-IK,zb9 _ _ (by rw[su];omega),zb8 _ _ (by rw[gN,su];omega)]
theorem qx9 (bs:LB) (q n:Nat):ak ((bs.drop q).take n)=((ak bs).drop (8*q)).take (8*n):=by
 have hd:∀(q:Nat) (bs:LB),ak (bs.drop q)=(ak bs).drop (8*q):=λq=>by
  induction q with
  | zero=>intro bs;rfl
  | succ q ih=>
   intro bs;cases bs with
   | nil=>simp[ak]
   | cons c t=>have e:(dA 8 c.toNat++ak t).drop 8=ak t:=List.drop_left' (ar 8 c.toNat);rw[nY,ih,K7,show 8*(q+1)=8+8*q from by omega,<-BF,e]
 have ht:∀(n:Nat) (bs:LB),ak (bs.take n)=(ak bs).take (8*n):=λn=>by
  induction n with
  | zero=>intro bs;simp[ak]
  | succ n ih=>
   intro bs;cases bs with
   | nil=>simp[ak]
   | cons c t=>rw[lh,K7,K7,ih,show 8*(n+1)=(dA 8 c.toNat).length+8*n from by rw[ar];omega,List.take_length_add_append]
 rw[ht,hd]
end bl

end Go.Proofs.YticadfhpolhkeaaGreatDoor