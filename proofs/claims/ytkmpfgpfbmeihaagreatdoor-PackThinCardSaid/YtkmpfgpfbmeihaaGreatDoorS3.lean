/-
  Texts of this proof, one behind the other: Mix, PackHead, HexB, RGet, ShaLaw, SumB, ShaMix.
-/
import Derived.Test.YtkmpfgpfbmeihaaGreatDoorS2
import Derived.OrdersHeld
import Derived.Laws.MakeOwn
import Derived.Laws.EntriesVeiled
set_option maxHeartbeats 16000000
set_option maxRecDepth 100000
set_option linter.unusedVariables false
set_option linter.unusedSimpArgs false
namespace Go.Proofs.YtkmpfgpfbmeihaaGreatDoor.lib
open Go
def okKind:Op→Bool
 | .move _ | .assign _ | .pick .. | .load .. | .nilCheck _ | .binOp .. | .unOp .. | .convert .. | .slice .. | .fieldAddr .. | .field .. | .indexAddr .. | .index .. | .extract .. | .makeInterface ..=>true
 | .call { callee:=.builtin .len,.. } | .call { callee:=.builtin .cap,.. } | .call { callee:=.builtin .min,.. } | .call { callee:=.builtin .max,.. }=>true
 | _=>false
theorem qod {P:Program} {w w':World} {s:Sem Value} {f:FuncId} {args:Array Value}:(do pure (Next.value (<-s)):Sem Next).run P w≠.ok (.enter f args) w':=by
 intro h;rw[qi2]at h;cases hr:s.run P w with
 | ok v u=>rw[hr]at h;simp[Result.andThen]at h
 | halt x u=>rw[hr]at h;simp[Result.andThen]at h
theorem qqy {P:Program} {w w':World} {ρ:Operand→Value} {o:Oper} {f:FuncId} {args:Array Value} (h:okKind o.op=true):(execOp ρ o).run P w≠.ok (.enter f args) w':=by
 obtain⟨dst,op,ty,pos,after,guard⟩:=o;cases op<;>simp only[okKind,qfe]at h<;>try (exact qod)
 case move=>simp[execOp]
 case assign=>simp[execOp]
 case pick c a b=>
  intro h;simp only[execOp,qi2]at h;cases hr:(asBool (ρ c)).run P w with
  | ok v u=>rw[hr]at h;simp[Result.andThen]at h
  | halt x u=>rw[hr]at h;simp[Result.andThen]at h
 case nilCheck x=>
  intro h;simp only[execOp]at h;split at h
  ·simp[runtimePanic,goPanic]at h
  ·simp[runtimePanic,goPanic]at h
  ·simp[runtimePanic,goPanic]at h
  ·split at h
   ·simp[runtimePanic,goPanic]at h
   ·simp[unsupported,Result.andThen]at h;split at h
    ·split at h<;>simp at h
    ·simp at h
   ·simp at h
  ·simp at h
 case call c=>
  obtain⟨callee,args,ts⟩:=c;cases callee with
  | value f=>simp[okKind]at h
  | invoke r m=>simp[okKind]at h
  | builtin b=>cases b<;>simp[okKind]at h<;>(simp only[execOp,resolve,pure_bind,invoke,builtin];exact qod)
theorem qey {P:Program} {o:Oper} {a:Act} {C:World→Prop} {w:World} {v:Value} (hk:okKind o.op=true) (h:o.quietAt P a C w v) :
  (execOp a.eval o).run P w = .ok (.value v) w∨((execOp a.eval o).run P w = .ok .skip w∧v=undef):=by
 unfold Oper.quietAt at h;generalize hr:(execOp a.eval o).run P w=r at h;cases r with
 | ok n w'=>
  cases n<;>simp only[Oper.quietUpon]at h;case value u=>left;rw[h.1,h.2]
  case skip=>right;rw[h.1];exact⟨rfl,h.2⟩
  case enter f args=>exact absurd hr (qqy hk)
 | halt x w'=>simp only[Oper.quietUpon]at h
open Classical in
noncomputable def sup (S:List Nat) (w x:World):World:=if Fr S w x then x else w
theorem qcm (S:List Nat) (w x:World):Fr S w (sup S w x):=by
 unfold sup;split
 ·assumption
 ·exact Fr.refl _ _
theorem za4 {S:List Nat} {w x:World} (h:Fr S w x):sup S w x=x:=by unfold sup;rw[if_pos h]
@[go_sem] def Sup (S:List Nat) (w:World):World→Prop:=λu=>∃x,u=sup S w x
theorem Sup.of {S:List Nat} {w u:World} (h:Fr S w u):Sup S w u:=⟨u,(za4 h).symm⟩
theorem Sup.fr {S:List Nat} {w u:World} (h:Sup S w u):Fr S w u:=by obtain⟨x,rfl⟩:=h;exact qcm S w x
theorem Sup.sub {S:List Nat} {w w':World} (h:Fr S w w'):∀u,Sup S w' u→Sup S w u:=λu hu=>Sup.of (h.trans hu.fr)
@[go_sem] theorem zg3 {S:List Nat} {w x:World} {a:Addr} (h:(w.cell? a).isSome=true) (hn:a.block∉S):(sup S w x).cell? a=w.cell? a:=by obtain⟨v,hv⟩:=Option.isSome_iff_exists.1 h;rw[hv,(qcm S w x).cell hv hn]
section
variable {P : Program} {ops : Array Oper} {Q : Exit → Act → World → Prop} {md : Region.Mode}
def QY (P:Program) (ops:Array Oper) (C:World→Prop) (o:Oper) (v:Value) (a:Act):Prop:=
 (Region.wanted o (yielded ops a.tmps)=true∧∀w,C w→(execOp a.eval o).run P w = .ok (.value v) w∨((execOp a.eval o).run P w = .ok .skip w∧v=undef))∨
 (Region.wanted o (yielded ops a.tmps)=false∧v=undef)
theorem QY.of_same {C:World→Prop} {o:Oper} {v:Value} {a a':Act} (hy:QY P ops C o v a) (he:execOp a'.eval o=execOp a.eval o)
  (hw:Region.wanted o (yielded ops a'.tmps)=Region.wanted o (yielded ops a.tmps)):QY P ops C o v a':=by
 unfold QY at *;rw[he,hw];exact hy
theorem QY.op {C:World→Prop} {i:Nat} {o:Oper} {v:Value} {a:Act} (hi:ops[i]?=some o) (hy:QY P ops C o v a) {K:Act→World→Prop} {w:World} (hC:C w) (h:K (a.put o.dst v) w):wpOp P ops Q i K a w:=by
 unfold wpOp;simp only[hi];rcases hy with⟨hw,hv⟩|⟨hw,rfl⟩
 ·rcases hv w hC with hr|⟨hr,rfl⟩
  ·simp only[hw,if_true,Oper.wp,hr,Oper.upon];exact .inl h
  ·simp only[hw,if_true,Oper.wp,hr,Oper.upon];exact .inl h
 ·simp only[hw,qfe,if_false];exact h
theorem qml {C:World→Prop} {j:Nat} {oi oj:Oper} {v:Value} (hj:ops[j]?=some oj) (hap:oi.apart ops oj=true)
  (hsi:∀cs b,oi.op≠.select cs b) (hsj:∀cs b,oj.op≠.select cs b)
  (hQ:∀c a d v w,Q (.panic c) (Act.put a d v) w→Q (.panic c) a w) {K:Act→World→Prop} {a:Act} {w:World}
  (hy:QY P ops C oi v a) (h:wpOp P ops Q j K (a.put oi.dst v) w) :
  wpOp P ops Q j (λa' w'=>QY P ops C oi v a'∧K (a'.put oi.dst v) w') a w:=by
 obtain⟨h1,h2,h3⟩:=Oper.apart_spec hap;have keep:∀(a:Act),QY P ops C oi v a→∀u,QY P ops C oi v (a.put oj.dst u):=λa hy u=>hy.of_same (execOp_put oi hsi a oj.dst u h3) (wanted_put oi a oj.dst u h3)
 have keepD:∀d,QY P ops C oi v { a with defers:=d::a.defers }:=λd=>hy.of_same rfl rfl
 unfold wpOp at *;simp only[hj]at *;rw[wanted_put oj a oi.dst v h1]at h;by_cases hw:Region.wanted oj (yielded ops a.tmps)=true
 ·simp only[hw,if_true]at h ⊢;rcases h with h|⟨hasks,hlets⟩
  ·left;unfold Oper.wp at *;rw[execOp_put oj hsj a oi.dst v h1]at h;generalize (execOp a.eval oj).run P w=r at *;cases r with
   | ok n w'=>
    cases n<;>simp only[Oper.upon]at h ⊢;case value u=>exact⟨keep a hy u,by rw[<-Act.put_comm a v u h2];exact h⟩
    case skip=>exact⟨keep a hy _,by rw[<-Act.put_comm a v undef h2];exact h⟩
    case defer d=>refine⟨keep _ (keepD d) _,?_⟩;rw[<-Act.put_comm _ v undef h2,<-Act.put_defers];exact h
    case enter f args=>
     refine Calls.mono h λe w'' he=>?_
     cases e with
     | returned u=>exact⟨keep a hy u,by rw[<-Act.put_comm a v u h2];exact he⟩
     | panicked c=>exact hQ _ _ _ _ _ he
     | outgrown=>exact he
    case row row args=>exact Rows.mono h λu w'' he=>⟨keep a hy u,by rw[<-Act.put_comm a v u h2];exact he⟩
   | halt x w'=>cases x<;>simp only[Oper.upon]at h ⊢;case panic u=>exact hQ _ _ _ _ _ h
  ·right;refine⟨?_,hlets⟩;unfold Oper.asks at *;rw[execOp_put oj hsj a oi.dst v h1]at hasks;exact hasks
 ·simp only[hw]at h ⊢;exact⟨keep a hy _,by rw[<-Act.put_comm a v undef h2];exact h⟩
def wpMx (P:Program) (md:Region.Mode) (ops:Array Oper) (Q:Exit→Act→World→Prop) (n:Nat) (C:World→Prop):Nat→Array Bool→Act→World→Prop
 | 0,listed,a,w=>Region.ready md ops listed=[]∧Q .normal a w
 | f+1,listed,a,w=>(Region.ready md ops listed=[]→Q .normal a w)∧
  ∀i∈Region.ready md ops listed,wpOp P ops Q i (λa' w'=>(i<n→C w')∧wpMx P md ops Q n C f (listed.setIfInBounds i true) a' w') a w
theorem qi9 {n:Nat} {C C':World→Prop} (hC:∀u,C' u→C u):∀(f:Nat) (listed:Array Bool) (a:Act) (w:World),wpMx P md ops Q n C' f listed a w→wpMx P md ops Q n C f listed a w
 | 0,_,_,_,h=>h
 | f+1,_,_,_,h=>⟨h.1,λi hi=>wpOp_mono (λa' w' h'=>⟨λhn=>hC _ (h'.1 hn),qi9 hC f _ a' w' h'.2⟩) (h.2 i hi)⟩
theorem qg2 {n:Nat} {C:World→Prop}:∀(f:Nat) (listed:Array Bool) (a:Act) (w:World),wpMx P md ops Q n C f listed a w→wpAny P md ops Q f listed a w
 | 0,_,_,_,h=>h
 | f+1,_,_,_,h=>⟨h.1,λi hi=>wpOp_mono (λa' w' h'=>qg2 f _ a' w' h'.2) (h.2 i hi)⟩
theorem qh4 {n i:Nat} {oi:Oper} {v:Value} {C:World→Prop} (hi:ops[i]?=some oi) (hsel:∀(j:Nat) (o:Oper) cs b,ops[j]?=some o→o.op≠.select cs b)
  (hQ:∀c a d v w,Q (.panic c) (Act.put a d v) w→Q (.panic c) a w) (hin:i<n)
  (hT:∀listed,HeadInv md ops n listed→listed.getD i true=false→∀t,n≤t→t∉Region.ready md ops listed) :
  ∀(f:Nat) (listed:Array Bool) (a:Act) (w:World),HeadInv md ops n listed→
   (∀j oj,ops[j]?=some oj→j≠i→listed.getD j true=false→(∀e∈oj.after,Region.binds md e=true→e.on≠i)→oi.apart ops oj=true)→
   i∈Region.ready md ops listed→QY P ops C oi v a→C w→
   wpMx P md ops Q n C f (listed.setIfInBounds i true) (a.put oi.dst v) w→wpMx P md ops Q n C (f+1) listed a w:=by
 intro f;induction f with
 | zero=>
  intro listed a w inv _ hr hy hC H;refine⟨λh=>(by rw[h]at hr;cases hr),λj hj=>?_⟩;by_cases hji:j=i
  ·subst hji;exact hy.op hi hC ⟨λ_=>hC,H⟩
  ·have:=ready_mono hj hji;rw[H.1]at this;cases this
 | succ f ih=>
  intro listed a w inv hfree hr hy hC H;have hun:=(mem_ready.1 hr).1;refine⟨λh=>(by rw[h]at hr;cases hr),λj hj=>?_⟩;by_cases hji:j=i
  ·subst hji;exact hy.op hi hC ⟨λ_=>hC,H⟩
  ·have hjn:j<n:=by
    rcases qb8 j n with h|h
    ·exact h
    ·exact absurd hj (hT listed inv hun j h)
   have h1:=H.2 j (ready_mono hj hji);obtain⟨hjun,oj,hoj,hall⟩:=mem_ready.1 hj;have hnot:∀e∈oj.after,Region.binds md e=true→e.on≠i:=λe he hb heq=>by have h1:=hall e he hb;rw[heq,getD_both hun]at h1;cases h1
   have h2:=qml hoj (hfree j oj hoj hji hjun hnot) (λcs b=>hsel i oi cs b hi) (λcs b=>hsel j oj cs b hoj) hQ hy h1;have hfree':∀k ok,ops[k]?=some ok→k≠i→(listed.setIfInBounds j true).getD k true=false→
     (∀e∈ok.after,Region.binds md e=true→e.on≠i)→oi.apart ops ok=true:=λk ok hk hki hkun hno=>by
    refine hfree k ok hk hki ?_ hno
    by_cases hjk:j=k
    ·subst hjk;exact hjun
    ·rw[getD_set_ne true hjk]at hkun;exact hkun
   refine wpOp_mono (λa' w' h3=>⟨h3.2.1,?_⟩) h2;refine ih (listed.setIfInBounds j true) a' w' (inv.set hj hjn) hfree' (ready_mono hr (qdx hji)) h3.1 (h3.2.1 hjn) ?_;rw[Array.setIfInBounds_comm _ _ hji];exact h3.2.2
theorem qg1 {n:Nat} {C:World→Prop}:∀(l:List Oper) (k:Nat) (listed:Array Bool) (a:Act) (w:World),n≤k→(∀j,l[j]?=ops[k+j]?)→
  Region.seqB md ops l.length k listed=true→wpList P ops Q l a w→wpMx P md ops Q n C l.length listed a w
 | [],_,_,_,_,_,_,hB,h=>⟨by simpa[Region.seqB] using hB,h⟩
 | o::l,k,listed,a,w,hk,hl,hB,h=>by
  have h0:ops[k]?=some o:=by simpa using (hl 0).symm
  simp only[qao,Region.seqB,qbj,decide_eq_true_eq]at hB;refine⟨λh1=>(by rw[hB.1]at h1;cases h1),λi hi=>?_⟩;rw[hB.1]at hi;have hik:i=k:=by simpa using hi
  subst hik;have hw:wpOp P ops Q i (wpList P ops Q l) a w:=by unfold wpOp;simp only[h0];exact h
  exact wpOp_mono (λa' w' h'=>⟨λhlt=>by omega,qg1 l (i+1) _ a' w' (by omega) (λj=>by have:=hl (j+1);simpa[qcb,zan 1 j] using this) hB.2 h'⟩) hw
def mixQ (P:Program) (ops:Array Oper) (S:List Nat) (Q:Exit→Act→World→Prop) (tail:List Oper):List (Bool×Oper)→Act→World→Prop
 | [],a,w=>wpList P ops Q tail a w
 | (false,o)::rest,a,w=>if Region.wanted o (yielded ops a.tmps) then o.quiet P a (Sup S w) (λa'=>mixQ P ops S Q tail rest a' w) else mixQ P ops S Q tail rest (a.put o.dst undef) w
 | (true,o)::rest,a,w=>if Region.wanted o (yielded ops a.tmps) then o.wp P a w (λa' w'=>Fr S w w'∧mixQ P ops S Q tail rest a' w') Q else mixQ P ops S Q tail rest (a.put o.dst undef) w
def mixB (md:Region.Mode) (ops:Array Oper) (n:Nat):List (Bool×Nat)→Array Bool→Bool
 | [],listed=>Region.seqB md ops (ops.size-n) n listed
 | (e,i)::rest,listed=>decide (i<n)&&(match e with
   | true=>decide (Region.ready md ops listed=[i])
   | false=>(Region.ready md ops listed).contains i&&Region.free md ops listed i&&(match ops[i]? with|some o=>okKind o.op|none=>false))&&mixB md ops n rest (listed.setIfInBounds i true)
def mixAll (md:Region.Mode) (ops:Array Oper) (n:Nat) (order:List (Bool×Nat)):Bool:=
 Region.noSelect ops&&(decide (n=ops.size)||(decide (n<ops.size)&&Region.sinkB md ops n&&Region.chainB md ops n))&&decide (order.length+(ops.size-n)=ops.size)&&mixB md ops n order (Array.replicate ops.size false)
theorem qmv {n:Nat} {S:List Nat} {l:List Oper} (hl:ops=l.toArray) (hsel:Region.noSelect ops=true) (hQ:∀c a d v w,Q (.panic c) (Act.put a d v) w→Q (.panic c) a w)
  (hT:∀i,i<n→∀listed,HeadInv md ops n listed→listed.getD i true=false→∀t,n≤t→t∉Region.ready md ops listed) :
  ∀(order:List (Bool×Nat)) (listed:Array Bool) (a:Act) (w:World),HeadInv md ops n listed→mixB md ops n order listed=true→
   mixQ P ops S Q (l.drop n) (order.map λx=>(x.1,l.getD x.2 default)) a w→wpMx P md ops Q n (Sup S w) (order.length+(ops.size-n)) listed a w
 | [],listed,a,w,_,hB,h=>by
  have hlen:(l.drop n).length=ops.size-n:=by rw[hl];simp
  have:=qg1 (P:=P) (Q:=Q) (md:=md) (ops:=ops) (n:=n) (C:=Sup S w) (l.drop n) n listed a w (qae _) (λj=>by rw[hl];simp[qc5]) (by rw[hlen];exact hB) h;simpa[hlen] using this
 | (e,i)::rest,listed,a,w,inv,hB,h=>by
  simp only[mixB,qbj,decide_eq_true_eq]at hB;obtain⟨⟨hin,he⟩,hrest⟩:=hB;have hlen:((e,i)::rest).length+(ops.size-n)=rest.length+(ops.size-n)+1:=by simp;omega
  rw[hlen];cases e with
  | false=>
   simp only[qbj]at he;obtain⟨⟨hr,hf⟩,hk⟩:=he;have hr':i∈Region.ready md ops listed:=by simpa using hr
   obtain⟨_,oi,hoi,_⟩:=mem_ready.1 hr';rw[hoi]at hk;have hd:l.getD i default=oi:=by rw[hl]at hoi;simp at hoi;simp[List.getD,hoi]
   simp only[qak,hd,mixQ]at h;have hC:Sup S w w:=Sup.of (Fr.refl _ _);by_cases hw:Region.wanted oi (yielded ops a.tmps)=true
   ·rw[if_pos hw]at h;obtain⟨v,h1,h2⟩:=h;have hy:QY P ops (Sup S w) oi v a:=.inl ⟨hw,λu hu=>qey hk (h1 u hu)⟩;exact qh4 hoi (qdi hsel) hQ hin (hT i hin) _ listed a w inv (qeq hoi hf) hr' hy hC (qmv hl hsel hQ hT rest _ _ w (inv.set hr' hin) hrest h2)
   ·rw[if_neg hw]at h;have hy:QY P ops (Sup S w) oi undef a:=.inr ⟨by simpa using hw,rfl⟩;exact qh4 hoi (qdi hsel) hQ hin (hT i hin) _ listed a w inv (qeq hoi hf) hr' hy hC (qmv hl hsel hQ hT rest _ _ w (inv.set hr' hin) hrest h)
  | true=>
   simp only[decide_eq_true_eq]at he;have hr':i∈Region.ready md ops listed:=by rw[he];simp
   obtain⟨_,oi,hoi,_⟩:=mem_ready.1 hr';have hd:l.getD i default=oi:=by rw[hl]at hoi;simp at hoi;simp[List.getD,hoi]
   simp only[qak,hd,mixQ]at h;refine⟨λh0=>(by rw[h0]at hr';cases hr'),λj hj=>?_⟩;rw[he]at hj;have hji:j=i:=by simpa using hj
   subst hji;unfold wpOp;simp only[hoi];by_cases hw:Region.wanted oi (yielded ops a.tmps)=true
   ·rw[if_pos hw]at h;rw[if_pos hw];left;exact Oper.wp_mono (λa' w' h'=>⟨λ_=>Sup.of h'.1,qi9 (Sup.sub h'.1) _ _ _ _ (qmv hl hsel hQ hT rest _ a' w' (inv.set hr' hin) hrest h'.2)⟩) h
   ·rw[if_neg hw]at h;rw[if_neg hw];exact⟨λ_=>Sup.of (Fr.refl _ _),qmv hl hsel hQ hT rest _ _ w (inv.set hr' hin) hrest h⟩
theorem qb3 {id:Nat} {a:Act} {w:World} {l:List Oper} (n:Nat) (order:List (Bool×Nat)) (S:List Nat) (hm:P.follows .mixedOrders=true) (hB:mixAll .any l.toArray n order=true)
  (hQ:∀c a d v w,Q (.panic c) (Act.put a d v) w→Q (.panic c) a w)
  (h:mixQ P l.toArray S Q (l.drop n) (order.map λx=>(x.1,l.getD x.2 default)) a w.drew):(Code.region id l.toArray true).wp P Q a w:=by
 simp only[mixAll,qbj,decide_eq_true_eq,Bool.or_eq_true]at hB;obtain⟨⟨⟨hsel,hn⟩,hlen⟩,hmix⟩:=hB;have inv0:HeadInv .any l.toArray n (Array.replicate l.toArray.size false):=
  ⟨by simp,λj oj _ hl=>(by rw[getD_replicate_false]at hl;cases hl),λt _ ht=>getD_in (by simpa using ht) (getD_replicate_false _ _)⟩
 have hT:∀i,i<n→∀listed,HeadInv .any l.toArray n listed→listed.getD i true=false→∀t,n≤t→t∉Region.ready .any l.toArray listed:=by
  intro i hi listed inv hun t ht hr;rcases hn with hn|⟨⟨hn,hs⟩,hc⟩
  ·obtain⟨_,o,ho,_⟩:=mem_ready.1 hr;have:=(qd0.1 ho).1;omega
  ·exact tail_waits hs hc hn inv _ i rfl hi hun t ht hr
 refine wp_region_any hm (qg2 (n:=n) (C:=Sup S w.drew) _ _ _ _ ?_);have:=qmv (P:=P) (Q:=Q) (md:=.any) (n:=n) (S:=S) rfl hsel hQ hT order _ a w.drew inv0 hmix h;rw[hlen]at this;exact this
theorem qb0 {S:List Nat} {tail:List Oper} {items:List (Bool×Oper)} {a:Act} {w:World} (k:Nat) (h0:((items.take k).all λx=>!x.1)=true)
  (h:wpQuiet P ops (Sup S w) (λa'=>mixQ P ops S Q tail (items.drop k) a' w) ((items.take k).map (·.2)) a):mixQ P ops S Q tail items a w:=by
 induction k generalizing items a with
 | zero=>exact h
 | succ k ih=>
  cases items with
  | nil=>exact h
  | cons x rest=>
   obtain⟨b,o⟩:=x;simp only[qah,List.all_cons,qbj,Bool.not_eq_true']at h0;obtain⟨rfl,h0⟩:=h0;simp only[qah,qak,qad,wpQuiet]at h;unfold mixQ;by_cases hw:Region.wanted o (yielded ops a.tmps)=true
   ·rw[if_pos hw]at h ⊢;obtain⟨v,h1,h2⟩:=h;exact⟨v,h1,ih h0 h2⟩
   ·rw[if_neg hw]at h ⊢;exact ih h0 h
theorem qb6 {S:List Nat} {tail:List Oper} {rest:List (Bool×Oper)} {o:Oper} {a:Act} {w:World} (hw:Region.wanted o (yielded ops a.tmps)=true)
  (h:∀K:Act→World→Prop,Go.RowKit.Hid (∀a' w',Fr S w w'→mixQ P ops S Q tail rest a' w'→K a' w')→o.wp P a w K Q):mixQ P ops S Q tail ((true,o)::rest) a w:=by
 unfold mixQ;rw[if_pos hw];exact h _ λ_ _ h1 h2=>⟨h1,h2⟩
theorem zfa {S:List Nat} {tail:List Oper} {rest:List (Bool×Oper)} {o:Oper} {a:Act} {w:World} (hw:Region.wanted o (yielded ops a.tmps)=false)
  (h:mixQ P ops S Q tail rest (a.put o.dst undef) w):mixQ P ops S Q tail ((true,o)::rest) a w:=by
 unfold mixQ;rw[if_neg (by rw[hw];exact Bool.false_ne_true)];exact h
theorem qcq {S:List Nat} {tail:List Oper} {a:Act} {w:World} (h:wpList P ops Q tail a w):mixQ P ops S Q tail [] a w:=h
end
end Go.Proofs.YtkmpfgpfbmeihaaGreatDoor.lib
namespace Go.Proofs.YtkmpfgpfbmeihaaGreatDoor.pk
open Go Go.RowKit lib bm
theorem sliceU8:SliceTy Tryz.prog 23 5 (.int .u8 0) 1 1:=SliceTy.of Tryz.underlying23 (by kernel_rfl) rfl (by decide)
theorem qc0 (bs:List UInt8):∀u∈bs.map bv,u.oneCell'=true:=by intro u hu;obtain⟨b,_,rfl⟩:=qcj.1 hu;rfl
structure Wr (w wr:World) (a:Option Addr) (c:Nat) (out:List UInt8):Prop where
 own:wr.ownsRow 0 5 1 (.slice a out.length c) out.length (out.map bv)
 fr:Fr [] w wr
 new:∀x∈blk a,w.heap.size≤x
theorem qoy (w w':World) (f:Fr [] w w'):Wr w w' none 0 []:=⟨qch _ _ _ _,f,by simp[blk]⟩
theorem Wr.step {w wr w1 w2:World} {a a2:Option Addr} {c c2:Nat} {out:List UInt8} {x:UInt8} (h:Wr w wr a c out) (f:Fr [] wr w1) (A:Appended w1 w2 5 1 (blk a) a2 (out.length+1) c2 (out.map bv++[bv x])):Wr w w2 a2 c2 (out++[x]):=by
 refine⟨by rw[qab,qbe];exact A.own,(h.fr.trans f).step A.fr λy hy=>.inr (h.new y hy),λy hy=>?_⟩;rcases A.at_ y hy with h1|h1
 ·exact h.new y h1
 ·have:=(h.fr.trans f).size;omega
theorem qyg (kind size:Nat) (hk:kind≤7):bits .or .u8 (bits .and .i64 (kind:Int) 7%256*16%256) (bits .and .i64 (size:Int) 15%256)=((kind%8*16+size%16:Nat):Int):=by
 rw[show bits .and .i64 (kind:Int) 7=(kind:Int)%8 from qpr _ 3 (by decide),show bits .and .i64 (size:Int) 15=(size:Int)%16 from qpr _ 4 (by decide)];have h:∀(x:Fin 8) (y:Fin 16),bits .or .u8 (((x.1:Nat):Int)*16) ((y.1:Nat):Int)=((x.1*16+y.1:Nat):Int):=by decide +kernel
 have e:=h ⟨kind%8,by omega⟩ ⟨size%16,by omega⟩;simp only at e;rw[show (kind:Int)%8%256*16%256=((kind%8:Nat):Int)*16 by omega,show (size:Int)%16%256=((size%16:Nat):Int) by omega,e]
theorem qxz (c:Nat) (h:c≤127):bits .or .u8 (c:Int) 128=(((UInt8.ofNat (c+128)).toNat:Nat):Int):=by
 have h2:∀x:Fin 128,bits .or .u8 (x.1:Int) 128=((x.1+128:Nat):Int):=by decide +kernel
 have e:=h2 ⟨c,by omega⟩;simp only at e;rw[e,qd1 (by omega)]
theorem low7 (n:Nat):bits .and .i64 (n:Int) 127=((n%128:Nat):Int):=by rw[show bits .and .i64 (n:Int) 127=(n:Int)%128 from qpr _ 7 (by decide)];omega
theorem zcf (f c:Nat):hdF f c 0=[UInt8.ofNat c]:=by cases f<;>simp[hdF]
theorem zcg {f c n:Nat} (h:0<n) (hf:n≤f):hdF f c n=UInt8.ofNat (c+128)::hdF f (n%128) (n/128):=by
 cases f with
 | zero=>omega
 | succ f=>rw[hdF,if_neg (by omega),zch (f:=f) (g:=f+1) (by omega) (by omega)]
theorem qhc (kind size:Nat) (w:World) (hk:kind≤7) (hs:size≤9007199254740992):Calls Tryz.prog 10 #[.int .i64 kind,.int .i64 size] w (NewBytes w (hd kind size)):=by
 have hl:=qyg kind size hk;obtain⟨c0,hc0⟩:∃c,c=kind%8*16+size%16:=⟨_,rfl⟩;obtain⟨bs,hbs⟩:=zex (hd kind size);have hb2:bs=hdF size c0 (size/16):=by rw[hbs,hc0];rfl
 have hbl:bs.length≤9:=by rw[hb2];exact zdu (k:=8) (by omega) (by omega)
 have hc127:c0≤127:=by omega
 rw[<-hc0]at hl;rw[<-hbs];have HB:=zhd2 hb2 hbl;clear hb2 hbl hc0 hbs;go_enter Tryz.func10,Tryz.ntmps10;go_upto_region 2 with (refine qd8 (size:Int) rfl _ _ _ rfl (size:Int) 0 rfl rfl (by split<;>omega) ?_);go_upto_block 0 with fail;go_cut [5,6] from 17 to 30 (λs5 s6 wz=>∃c a cap out,s5 = .int .u8 ((c:Nat):Int)∧s6 = .slice a out.length cap∧c≤127∧Wr w wz a cap out∧bs=out++[UInt8.ofNat c])
 case first=>
  go_wp2;go_loopg [1,5,6] size (λk s1 s5 s6 wr=>∃n c a cap out,s1 = .int .i64 (n:Nat)∧s5 = .int .u8 ((c:Nat):Int)∧s6 = .slice a out.length cap∧n≤k∧n≤size∧c≤127∧Wr w wr a cap out∧bs=out++hdF size c n);case atStart=>exact⟨size/16,c0,none,0,[],by go_num,rfl,rfl,by omega,by omega,hc127,qoy w w (Fr.refl _ _),HB.o0⟩
  case round=>
   obtain⟨n,c,a,cap,out,rfl,rfl,rfl,hk1,hns,hc,h,hall⟩:=hrel;have H:=zhd2 h hall;have hol:out.length≤9:=by have:=congrArg List.length hall;rw[qab]at this;have:=HB.l1;omega
   clear h hall;by_cases h0:0<n
   ·have ho:=qxz c hc;have h7:=low7 n;obtain⟨x,hx⟩:=zex (UInt8.ofNat (c+128));rw[<-hx]at ho;obtain⟨S,hS⟩:=zex (blk a);have HX:=zhd2 hx hS;have f0:Fr [] wr (wr.alloc (.cells #[.int .u8 (x.toNat:Nat)] 5)):=(Fr.refl [] wr).alloc _;have ownA:=qa7 H.out.1.own f0 (by simp);have cA:Cs (wr.alloc (.cells #[.int .u8 (x.toNat:Nat)] 5)) (some ⟨wr.heap.size,0,none⟩) [bv x]:=qdp _ _ _ 5 (qay wr _);have HA:=zhd3 ownA cA f0;clear ownA cA f0 hx hS;go_wp2_with (refine qba sliceU8 rfl _ _ rfl (.slice a out.length cap) out.length (out.map bv) S rfl (by rw[qby,HX.l1]) HA.o0 (some ⟨wr.heap.size,0,none⟩) 1 1 [bv x] rfl (by decide) (by simp) HA.o1 (by rfl) (qc0 [x]) (by omega) (by unfold maxLen;omega) ?_;intro a2 c2 w2 A1;have HA1:=zhd A1;clear A1);go_roundg (n/128);case measure=>omega
    case rel=>have A1:=HA1.out;rw[HX.l1]at A1;refine⟨n/128,n%128,a2,c2,out++[x],by go_num,by go_num,by rw[qab];rfl,qae _,by omega,by omega,H.out.1.step HA.l2 A1,?_⟩;rw[H.out.2,zcg h0 hns,HX.o0,qas];rfl
   ·go_wp2;go_meet;obtain rfl:n=0:=by omega
    exact⟨c,a,cap,out,rfl,rfl,hc,H.out.1,by rw[H.out.2,zcf]⟩
 case rest=>
 obtain⟨c,a,cap,out,rfl,rfl,hc,h,hall⟩:=hcut;have H:=zhd h;have hol:out.length+1=bs.length:=by rw[hall];simp
 have hol9:out.length≤9:=by have:=HB.l1;omega
 have HALL:=zhd2 hall hol;clear h hall hol;obtain⟨x,hx⟩:=zex (UInt8.ofNat c);have hbx:[bv x]=[.int .u8 (c:Int)]:=by unfold bv;rw[hx,qd1 (by omega)]
 obtain⟨S,hS⟩:=zex (blk a);have HX:=zhd2 hx hS;have f0:Fr [] wc (wc.alloc (.cells #[.int .u8 (c:Int)] 5)):=(Fr.refl [] wc).alloc _;have ownA:=qa7 H.out.own f0 (by simp);have cA:Cs (wc.alloc (.cells #[.int .u8 (c:Int)] 5)) (some ⟨wc.heap.size,0,none⟩) [bv x]:=by rw[hbx];exact qdp _ _ _ 5 (qay wc _)
 have HA:=zhd3 ownA cA f0;clear ownA cA f0 hx hS hbx;go_wp2_with (refine qba sliceU8 rfl _ _ rfl (.slice a out.length cap) out.length (out.map bv) S rfl (by rw[qby,HX.l1]) HA.o0 (some ⟨wc.heap.size,0,none⟩) 1 1 [bv x] rfl (by decide) (by simp) HA.o1 (by rfl) (qc0 [x]) (by omega) (by unfold maxLen;omega) ?_;intro a2 c2 w2 A1;have hcap:=A1.le;have hcm:=A1.max;have HA1:=zhd A1;clear A1);go_ret;have A1:=HA1.out;rw[HX.l1]at A1;have h4:=H.out.step HA.l2 A1;rw[HX.o0,<-HALL.o0]at h4;obtain⟨r1,_⟩:=qc1 h4.own;rw[HALL.l1];exact⟨a2,rfl,⟨r1.cs,qae _,qar r1.le r1.max,λe=>by have:=r1.nil e;have:=r1.le;omega⟩,λy hy=>⟨h4.new y hy,qdu h4.own (qdw hy)⟩,h4.fr⟩
def hexd (k:Nat):UInt8:=if k<10 then UInt8.ofNat (48+k) else UInt8.ofNat (87+k)
def digs16:ByteArray:=⟨#[48,49,50,51,52,53,54,55,56,57,97,98,99,100,101,102]⟩
theorem qzi:∀k:Fin 16,∀h,digs16[k.1]'h=hexd k.1:=by decide
theorem qid (k:Nat) (hk:k<16) (w:World):(Instr.index 9 (.string ⟨#[48,49,50,51,52,53,54,55,56,57,97,98,99,100,101,102]⟩) (.int .u8 k)).run Tryz.prog w = .ok (.int .u8 ((hexd k).toNat:Nat)) w:=by
 have hs:digs16.size=16:=by decide
 have e:=run_index_string (P:=Tryz.prog) w 9 digs16 .u8 k Tryz.underlying9;rw[dif_pos ⟨by omega,by rw[hs];omega⟩]at e;have h2:=qzi ⟨k,hk⟩ (by rw[hs];exact hk);simp only[qdm]at e;rw[h2]at e;exact e
def hex2 (b:UInt8):List UInt8:=[hexd (b.toNat/16),hexd (b.toNat%16)]
def hexb (bs:List UInt8):List UInt8:=bs.flatMap hex2
theorem hexb_length (bs:List UInt8):(hexb bs).length=2*bs.length:=by
 induction bs with
 | nil=>rfl
 | cons b t ih=>unfold hexb at *;rw[qcl,qab,ih];simp[hex2];omega
theorem qra (bs:List UInt8) (b:UInt8):hexb (bs++[b])=hexb bs++hex2 b:=by unfold hexb;rw[qf9];simp
theorem qud (n:Nat) (hn:n≤100000000):∃A:Array Value,A.size=n∧∀w:World,(Instr.makeSlice 23 (.int .i64 0) (.int .i64 (n:Nat))).run Tryz.prog w = .ok (.slice (some ⟨w.heap.size,0,none⟩) 0 n) (w.alloc (.cells A 5)):=by obtain⟨hu,⟨i,hi,hz,hs,hb⟩,_,_⟩:=sliceU8;refine⟨madeCells (Value.int .u8 0).cells n,size_madeCells _ _,λw=>?_⟩;have:=run_make (P:=Tryz.prog) w 23 5 i (.int .u8 0) Tryz.underlying23 hi hz .i64 .i64 0 (n:Nat) (Int.le_refl _) (by omega) (by rw[hb];omega) (by omega);rw[hs,qdm,qce]at this;exact this
theorem qog (b:UInt8):(hex2 b).map bv=[.int .u8 ((hexd (b.toNat/16)).toNat:Nat),.int .u8 ((hexd (b.toNat%16)).toNat:Nat)]:=rfl
theorem Wr.step2 {w wr w1 w2:World} {a a2:Option Addr} {c c2:Nat} {out xs:List UInt8} (h:Wr w wr a c out) (f:Fr [] wr w1) (A:Appended w1 w2 5 1 (blk a) a2 (out.length+xs.length) c2 (out.map bv++xs.map bv)):Wr w w2 a2 c2 (out++xs):=by
 refine⟨by rw[qab,qbe];exact A.own,(h.fr.trans f).step A.fr λy hy=>.inr (h.new y hy),λy hy=>?_⟩;rcases A.at_ y hy with h1|h1
 ·exact h.new y h1
 ·have:=(h.fr.trans f).size;omega
theorem and15u (b:UInt8):bits .and .u8 ((b.toNat:Nat):Int) 15=((b.toNat%16:Nat):Int):=by
 have h:∀x:Fin 256,bits .and .u8 (x.1:Int) 15=((x.1%16:Nat):Int):=by decide +kernel
 exact h ⟨b.toNat,qbc b⟩
theorem qps (ao:Option Addr) (cap:Nat) (bs:List UInt8) (w:World) (h:lib.Rd w ao cap bs) (hlen:bs.length≤10000000) :
  Calls Tryz.prog 46 #[.slice ao bs.length cap] w λe w'=>e = .returned (.string (str (hexb bs)))∧Fr [] w w':=by
 obtain⟨L,hL⟩:=zex bs.length;obtain⟨A,hAs,hmk⟩:=qud (2*L) (by omega);obtain⟨C,hC⟩:=zex (2*L);have hLb:L≤10000000:=by omega
 rw[<-hC]at hmk hAs;rw[show ((C:Nat):Int)=2*(L:Int) by omega]at hmk;have HI:=zhd3 h hL hAs;rw[<-hL];clear h hL hAs hlen;have HC:=zhd hC;clear hC;go_enter Tryz.func46,Tryz.ntmps46;go_upto_region 2 with fail;have o0:Wr w (w.alloc (.cells A 5)) (some ⟨w.heap.size,0,none⟩) C []:=⟨⟨rfl,.inr ⟨w.heap.size,C,A,rfl,qa5 _,qay _ _,qa5 _,by have:=HC.out;unfold maxLen;omega,by rw[HI.out.2.2,qce],by simp⟩⟩,(Fr.refl _ _).alloc _,by simp[blk]⟩;obtain⟨w0,hw0⟩:=zex (w.alloc (.cells A 5));rw[<-hw0]at o0 ⊢;have H0:=zhd o0;clear o0 hw0 hmk;go_wp2;go_loopg [3,12] L (λk s3 s12 wr=>∃i a c out,s12 = .int .i64 (i:Nat)∧s3 = .slice a out.length c∧i+k=L∧Wr w wr a c out∧out=hexb (bs.take i));case atStart=>exact⟨0,_,C,[],rfl,rfl,by omega,H0.out,rfl⟩
 case round=>
  obtain⟨i,a,c,out,rfl,rfl,hik,h,hout⟩:=hrel;have hol:out.length=2*i:=by rw[hout,hexb_length,qaq,<-HI.out.2.1];omega
  have H:=zhd3 h hout hol;have hob:out.length≤20000000:=by omega
  clear h hout hol;by_cases hi:i<L
  ·obtain⟨k,rfl⟩:∃k,gk=k+1:=⟨gk-1,by omega⟩;have hil:i<bs.length:=by rw[<-HI.out.2.1];exact hi
   obtain⟨g,o,rfl,hc⟩:=(HI.out.1.cs.fr H.out.1.fr (by simp)).at (by rw[qap];omega);have hci:=hc i (bv bs[i]) (by rw[qbl,qai hil];rfl);unfold bv at hci;have hx0:=qid (bs[i].toNat/16) (by have:=qbc bs[i];omega);have hx1:=qid (bs[i].toNat%16) (by omega);have e1:=and15u bs[i];have hb256:=qbc bs[i];have hcl:=qog bs[i];have HT:=zhd (show bs.take (i+1)=bs.take i++[bs[i]] from qca hil);obtain⟨b,hb⟩:=zex (bs[i]);rw[<-hb]at hci hx0 hx1 e1 hb256 hcl HT;have HCL:=zhd hcl;clear hc hil hb hcl;have e0:((b.toNat:Nat):Int)/16=((b.toNat/16:Nat):Int):=by omega
   go_upto_region 5 with fail;generalize (hexd (b.toNat/16)).toNat=h0 at *;generalize (hexd (b.toNat%16)).toNat=h1 at *;generalize b.toNat%16=b1 at *;generalize b.toNat/16=b0 at *;obtain⟨S,hS⟩:=zex (blk a);refine qb3 9 [(false,0),(false,1),(false,2),(false,3),(false,4),(false,5),(false,6),(true,7),(true,8)] S (by kernel_rfl) (by kernel_rfl) (λ_ _ d _ _ h=>by cases d<;>exact h) ?_;simp only[qak,qam,qaz,qa0,qad,qaj,qbk];refine qb0 7 rfl ?_;simp only[qah,qan,qad,qaj,qak,qam];have HS:=zhd hS;clear hS;repeat (go_big_quiet_step (fail))
   refine wpQuiet_nil ?_;clear e0 e1 hx0 hx1;refine qb6 rfl ?_;intro X hX;go_wp2;refine hX.out _ _ ((Fr.refl _ wr.drew).alloc _) ?_;clear hX X;have fr0:Fr [] wr (wr.drew.alloc (.cells #[.int .u8 h0,.int .u8 h1] 5)):=(Fr.drew1 [] wr).alloc _;have ownA:=qa7 H.out.1.own fr0 (by simp);have cA:Cs (wr.drew.alloc (.cells #[.int .u8 h0,.int .u8 h1] 5)) (some ⟨wr.drew.heap.size,0,none⟩) ((hex2 b).map bv):=by rw[HCL.out];exact .inr ⟨wr.drew.heap.size,0,rfl,λj u hj=>by rw[cell_of (qay wr.drew _)];simpa using hj⟩
   refine qb6 rfl ?_;intro X hX;refine qda sliceU8 _ _ rfl (.slice a out.length c) out.length (out.map bv) S rfl (by rw[qby,HS.out]) ownA (some ⟨wr.drew.heap.size,0,none⟩) 2 2 ((hex2 b).map bv) rfl (by decide) (by simp) cA (by rfl) (qc0 _) (by omega) (by unfold maxLen;omega) ?_;intro a2 c2 w2 A1;refine hX.out _ _ A1.fr ?_;clear hX X;refine qcq ?_;have HA:=zhd2 fr0 A1;clear fr0 A1 ownA cA;go_wp2;go_roundg k;case measure=>omega
   case rel=>have A1:=HA.l1;rw[HS.out]at A1;exact⟨i+1,a2,c2,out++hex2 b,by go_num,by rw[qab];rfl,by omega,H.out.1.step2 HA.o0 A1,by rw[HT.out,qra,<-H.out.2.1]⟩
  ·obtain rfl:i=L:=by omega
   obtain⟨r1,_⟩:=qc1 H.out.1.own;have cv:=qde wr Tryz.underlying23 Tryz.underlying5 Tryz.underlying9 (rfl:out.length=out.length) r1.cs;have HO:=zhd (show out=hexb bs by rw[H.out.2.1,HI.out.2.1,List.take_length]);clear r1;go_wp2;go_ret;exact⟨by rw[<-HO.out];rfl,H.out.1.fr⟩
end Go.Proofs.YtkmpfgpfbmeihaaGreatDoor.pk
namespace Go.Proofs.YtkmpfgpfbmeihaaGreatDoor.crc
open Go Go.RowKit lib
def getb (bs:List UInt8):Nat:=bs.foldl (λn b=>256*n+b.toNat) 0
end Go.Proofs.YtkmpfgpfbmeihaaGreatDoor.crc
namespace Go.Proofs.YtkmpfgpfbmeihaaGreatDoor.sha
open Go Go.RowKit lib
def rol (x:Int) (n:Nat):Int:=bits .or .u32 (x*2^n%4294967296) (x/2^(32-n))
def add32 (a b:Int):Int:=(a+b)%4294967296
def not32 (a:Int):Int:=bits .xor .u32 IntKind.u32.max a
def ch (b c d:Int):Int:=bits .or .u32 (bits .and .u32 b c) (bits .and .u32 (not32 b) d)
def par (b c d:Int):Int:=bits .xor .u32 (bits .xor .u32 b c) d
def maj (b c d:Int):Int:=bits .or .u32 (bits .or .u32 (bits .and .u32 b c) (bits .and .u32 b d)) (bits .and .u32 c d)
def fsel (q:Nat) (b c d:Int):Int:=match q with
 | 0=>ch b c d
 | 1=>par b c d
 | 2=>maj b c d
 | _=>par b c d
def ksel (q:Nat):Int:=match q with
 | 0=>1518500249
 | 1=>1859775393
 | 2=>2400959708
 | _=>3395469782
def word (p:List UInt8) (i:Nat):Int:=(((p[i]?.getD 0).toNat*16777216+(p[i+1]?.getD 0).toNat*65536+(p[i+2]?.getD 0).toNat*256+(p[i+3]?.getD 0).toNat:Nat):Int)
def sched (p:List UInt8):Nat→List Int
 | 0=>[]
 | t+1=>sched p t++[if t<16 then word p (4*t) else rol (bits .xor .u32 (bits .xor .u32 (bits .xor .u32 ((sched p t)[t-3]?.getD 0) ((sched p t)[t-8]?.getD 0)) ((sched p t)[t-14]?.getD 0)) ((sched p t)[t-16]?.getD 0)) 1]
theorem qer (p:List UInt8):∀t,(sched p t).length=t
 | 0=>rfl
 | t+1=>by rw[sched,qab,qer p t];rfl
theorem qmd (p:List UInt8) (i:Nat):∀t,i<t→(sched p t)[i]?=(sched p (i+1))[i]?
 | 0,h=>by omega
 | t+1,h=>by
  by_cases e:i=t
  ·rw[e]
  ·rw[<-qmd p i t (by omega)];conv=>lhs;rw[sched]
   rw[qcv (by rw[qer];omega)]
structure H5 where
 a:Int
 b:Int
 c:Int
 d:Int
 e:Int
def round (p:List UInt8) (t:Nat) (s:H5):H5:=
 ⟨add32 (add32 (add32 (add32 (rol s.a 5) (fsel (t/20) s.b s.c s.d)) s.e) (ksel (t/20))) ((sched p 80)[t]?.getD 0),s.a,rol s.b 30,s.c,s.d⟩
def rounds (p:List UInt8):Nat→H5→H5
 | 0,s=>s
 | t+1,s=>round p t (rounds p t s)
def mixH (h:H5) (p:List UInt8):H5:=
 ⟨add32 h.a (rounds p 80 h).a,add32 h.b (rounds p 80 h).b,add32 h.c (rounds p 80 h).c,add32 h.d (rounds p 80 h).d,add32 h.e (rounds p 80 h).e⟩
def H5.vals (h:H5):Array Value:=#[.int .u32 h.a,.int .u32 h.b,.int .u32 h.c,.int .u32 h.d,.int .u32 h.e]
def h0:H5:=⟨1732584193,4023233417,2562383102,271733878,3285377520⟩
def blocks:Nat→H5→List UInt8→H5
 | 0,h,_=>h
 | f+1,h,p=>if 64≤p.length then blocks f (mixH h p) (p.drop 64) else h
end Go.Proofs.YtkmpfgpfbmeihaaGreatDoor.sha
namespace Go.Proofs.YtkmpfgpfbmeihaaGreatDoor.sums
open Go Go.RowKit lib bm
def be4 (x:Nat):List UInt8:=[UInt8.ofNat (x/16777216),UInt8.ofNat (x/65536),UInt8.ofNat (x/256),UInt8.ofNat x]
theorem qdg (x:Nat):(be4 x).length=4:=rfl
theorem qtd (x:Nat) (h:x<4294967296):(be4 x).map bv=[.int .u8 ((x:Int)/16777216),.int .u8 ((x:Int)/65536%256),.int .u8 ((x:Int)/256%256),.int .u8 ((x:Int)%256)]:=by simp only[be4,qak,qam,bv,qcy];refine qft.2 ⟨int_eq (by omega),qft.2 ⟨int_eq (by omega),qft.2 ⟨int_eq (by omega),qft.2 ⟨int_eq (by omega),rfl⟩⟩⟩⟩
theorem zaa (x:Nat) (h:x<4294967296) (b:List UInt8) (hb:b=be4 x):(b[0]?.getD 0).toNat*16777216+(b[1]?.getD 0).toNat*65536+(b[2]?.getD 0).toNat*256+(b[3]?.getD 0).toNat=x:=by subst hb;show (UInt8.ofNat (x/16777216)).toNat*16777216+(UInt8.ofNat (x/65536)).toNat*65536+(UInt8.ofNat (x/256)).toNat*256+(UInt8.ofNat x).toNat=x;simp only[qcy];omega
def Foured (w:World) (ao:Option Addr) (bs:List UInt8) (x:Nat) (e:Ending) (w':World):Prop:=
 ∃a c,e = .returned (.slice a (bs.length+4) c)∧OwnMore w w' 5 ao a c ((bs++be4 x).map bv)
theorem qjs (ao:Option Addr) (cap:Nat) (bs:List UInt8) (x:Nat) (w:World) (hx:x<4294967296) (h:Own w 5 ao cap (bs.map bv)) (hm:bs.length≤140737488351232) :
  Calls Tryz.prog 119 #[.slice ao bs.length cap,.int .u32 x] w (Foured w ao bs x):=by
 obtain⟨L,hL⟩:=zex bs.length;obtain⟨o1,o2,o3⟩:=h.shape;rw[qap,<-hL]at o1;rw[<-hL]at hm ⊢;have hb4:=qtd x hx;have H:=zhd3 h hL hb4;have f1:Fr [] w (w.alloc (.cells #[.int .u8 ((x:Int)/16777216),.int .u8 ((x:Int)/65536%256),.int .u8 ((x:Int)/256%256),.int .u8 ((x:Int)%256)] 5)):=(Fr.refl [] w).alloc _;have HF:=zhd f1;clear h hL hb4 f1;go_enter Tryz.func119,Tryz.ntmps119;go_wp2_with (refine qcn sliceU8 rfl _ _ rfl ao L cap (bs.map bv) rfl (H.o0.fr HF.out (by simp)) (by rw[qap];exact H.o1.symm) (some ⟨w.heap.size,0,none⟩) 4 4 ((be4 x).map bv) rfl (by omega) (by simp) (by rw[H.l2];exact qhk w _ _ _) rfl (qc0 _) (by omega) (by unfold maxLen;omega) ?_;intro a1 c1 w1 A1;have H1:=zhd A1;clear A1);go_ret;unfold Foured;rw[<-H.o1,qbe];refine⟨a1,c1,rfl,H1.out.own,HF.out.mono (by simp) |>.step H1.out.fr (λy hy=>.inl hy),λy hy=>?_⟩;rcases H1.out.at_ y hy with k|k
 ·exact .inl k
 ·right;rw[qa1]at k;omega
theorem qki (n v k:Nat) (hv:v<2^k) (hk:k≤32) (hn:n<4294967296) (hd:n%2^k=0):bits .or .u32 (n:Int) (v:Int)=((n+v:Nat):Int):=by
 have h1:=qir k 32 hk;rw[p32]at h1;have e:n=n/2^k*2^k:=by have:=qla n (2^k);rw[hd,qbn,qcc]at this;exact this.symm
 rw[u32_or_nat n v hn (by omega)];conv=>lhs;rw[e,Nat.or_comm,qk5 v _ k hv,qcc (2^k),<-e,zan]
theorem qsl (a:Option Addr) (cap:Nat) (y0 y1 y2 y3:UInt8) (w:World) (h:Rd w a cap [y0,y1,y2,y3]) :
  Calls Tryz.prog 111 #[.slice a 4 cap] w λe w'=>e = .returned (.int .u32 (y0.toNat*16777216+y1.toNat*65536+y2.toNat*256+y3.toNat:Nat))∧Fr [] w w':=by
 obtain⟨g,o,rfl,c0⟩:=h.at (i:=0) (by simp);obtain⟨g1,o1,e1,c1⟩:=h.at (i:=1) (by simp);obtain⟨g2,o2,e2,c2⟩:=h.at (i:=2) (by simp);obtain⟨g3,o3,e3,c3⟩:=h.at (i:=3) (by simp);simp only[qaw,qcz,and_true]at e1 e2 e3;obtain⟨rfl,rfl⟩:=e1;obtain⟨rfl,rfl⟩:=e2;obtain⟨rfl,rfl⟩:=e3;have hle:=h.le;simp only[qao,qbi]at hle;have l0:=qbc y0;have l1:=qbc y1;have l2:=qbc y2;have l3:=qbc y3;simp only[qbn,List.getElem_cons_zero,List.getElem_cons_succ]at c0 c1 c2 c3;generalize y0.toNat=x0 at *;generalize y1.toNat=x1 at *;generalize y2.toNat=x2 at *;generalize y3.toNat=x3 at *;obtain⟨z1,hz1⟩:∃z,z=x0*16777216+x1*65536:=⟨_,rfl⟩;obtain⟨z2,hz2⟩:∃z,z=z1+x2*256:=⟨_,rfl⟩;obtain⟨z3,hz3⟩:∃z,z=z2+x3:=⟨_,rfl⟩;have r1:bits .or .u32 ((x0:Int)*16777216) ((x1:Int)*65536)=(z1:Int):=by have:=qki (x0*16777216) (x1*65536) 24 (by omega) (by decide) (by omega) (by omega);rw[<-hz1]at this;simpa using this
 have r2:bits .or .u32 (z1:Int) ((x2:Int)*256)=(z2:Int):=by have:=qki z1 (x2*256) 16 (by omega) (by decide) (by omega) (by omega);rw[<-hz2]at this;simpa using this
 have r3:bits .or .u32 (z2:Int) (x3:Int)=(z3:Int):=by have:=qki z2 x3 8 (by omega) (by decide) (by omega) (by omega);rw[<-hz3]at this;exact this
 have HZ:Hid (x0*16777216+x1*65536+x2*256+x3=z3):=zhd (by omega);clear hz1 hz2 hz3 h;go_enter Tryz.func111,Tryz.ntmps111;go_wp2;go_quiet (fail);go_wp2;go_ret;exact⟨by rw[HZ.out];rfl,Fr.drewN _ _ _⟩
theorem qob (a:Option Addr) (cap x:Nat) (w:World) (hx:x<4294967296) (h:Rd w a cap (be4 x)) :
  Calls Tryz.prog 111 #[.slice a 4 cap] w λe w'=>e = .returned (.int .u32 x)∧Fr [] w w':=by
 have h1:=qsl a cap _ _ _ _ w h;have h2:=zaa x hx _ rfl;have e:(UInt8.ofNat (x/16777216)).toNat*16777216+(UInt8.ofNat (x/65536)).toNat*65536+(UInt8.ofNat (x/256)).toNat*256+(UInt8.ofNat x).toNat=x:=h2;rw[e]at h1;exact h1
theorem qw1 (g a b:Nat) (w:World) (h:Ad w g a b):Calls Tryz.prog 96 #[.pointer (some ⟨g,0,none⟩)] w λe w'=>(∃ao c,e = .returned (.slice ao 4 c)∧Rd w' ao c (be4 (b*65536+a)))∧Fr [] w w':=by
 obtain⟨C,hC,hsz,hc0,ha,hb,hla,hlb⟩:=h;have c0:=cell_of hC 0;have c1:=cell_of hC 265;have c2:=cell_of hC 266;rw[hc0]at c0;rw[ha]at c1;rw[hb]at c2;obtain⟨z,hz⟩:=zex (b*65536+a);have r1:bits .or .u32 ((b:Int)*65536) (a:Int)=(z:Int):=by have:=qki (b*65536) a 16 (by omega) (by decide) (by omega) (by omega);rw[<-hz]at this;simpa using this
 have hzl:z<4294967296:=by omega
 rw[<-hz];have HC:=zhd hC;clear hz hC hsz hc0 ha hb;go_enter Tryz.func96,Tryz.ntmps96;go_upto_region 5 with fail;have hgl:=lt_of_block HC.out;obtain⟨B,hB⟩:=zex w.heap.size;have hgB:g∉[B]:=by simp;omega
 have s1:∀x,(sup [B] w.drew x).cell? ⟨g,265,none⟩=some (.int .u32 a):=λx=>(qcm [B] w.drew x).cell (show w.drew.cell? _=_ from c1) hgB
 have s2:∀x,(sup [B] w.drew x).cell? ⟨g,266,none⟩=some (.int .u32 b):=λx=>(qcm [B] w.drew x).cell (show w.drew.cell? _=_ from c2) hgB
 have hmk:∀w:World,(Instr.makeSlice 23 (.int .i64 0) (.int .i64 4)).run Tryz.prog w = .ok (.slice (some ⟨w.heap.size,0,none⟩) 0 4) (w.alloc (.cells #[.int .u8 0,.int .u8 0,.int .u8 0,.int .u8 0] 5)):=λ_=>by kernel_rfl
 have hfo:∀w,Own w 5 (some ⟨B,0,none⟩) 4 (([]:List UInt8).map bv)→Calls Tryz.prog 119 #[.slice (some ⟨B,0,none⟩) 0 4,.int .u32 z] w (Foured w (some ⟨B,0,none⟩) [] z):=λw h=>qjs (some ⟨B,0,none⟩) 4 [] z w hzl h (by simp)
 unfold Foured at hfo;simp only[qbi,qbg,qb4]at hfo;have HB:=zhd2 hB hfo;clear hB hfo c0 c1 c2;refine qb3 13 [(false,1),(false,2),(false,3),(false,4),(false,5),(false,6),(false,7),(false,8),(false,9),(false,10),(true,0),(true,11),(false,12)] [B] (by kernel_rfl) (by kernel_rfl) (λ_ _ d _ _ h=>by cases d<;>exact h) ?_;simp only[qak,qam,qaz,qa0,qad,qaj,qbk];refine qb0 10 rfl ?_;simp only[qah,qan,qad,qaj,qak,qam];repeat (go_big_quiet_step (fail))
 refine wpQuiet_nil ?_;refine qb6 rfl ?_;intro X hX;have hBd:w.drew.heap.size=B:=HB.o0.symm;go_wp2;have f1:Fr [B] w.drew ((w.alloc (.cells #[.int .u8 0,.int .u8 0,.int .u8 0,.int .u8 0] 5)).drew):=(Fr.refl [B] w.drew).alloc (.cells #[.int .u8 0,.int .u8 0,.int .u8 0,.int .u8 0] 5);have hown:Own ((w.alloc (.cells #[.int .u8 0,.int .u8 0,.int .u8 0,.int .u8 0] 5)).drew) 5 (some ⟨B,0,none⟩) 4 (([]:List UInt8).map bv):=.inr ⟨B,0,_,rfl,by rw[HB.o0];exact qay w _,qa5 _,by decide,qae _,rfl⟩;refine hX.out _ _ f1 ?_;clear hX X s1 s2 hmk;generalize (w.alloc (.cells #[.int .u8 0,.int .u8 0,.int .u8 0,.int .u8 0] 5)).drew=w1 at *;have H1:=zhd2 (HB.l1 w1 hown) f1;clear hown f1 hBd;refine qb6 rfl ?_;intro X hX;go_wp2_with (go_at_call 119;refine H1.o0.mono ?_;rintro e w2 ⟨a2,c2,rfl,A2⟩);refine hX.out _ _ A2.fr ?_;clear hX X;have H2:=zhd A2;clear A2;refine qb0 1 rfl ?_;simp only[qah,qan,qad,qaj,qak,qam];repeat (go_big_quiet_step (fail))
 refine wpQuiet_nil ?_;refine qcq ?_;go_wp2;go_ret;have hr:Rd w2 a2 c2 (be4 z):=H2.out.own.rd;refine⟨⟨a2,c2,rfl,hr.fr (by first|exact Fr.refl _ _|exact Fr.drewN _ _ _)⟩,?_⟩;have f2:Fr [] w w.drew:=Fr.drew1 [] w;exact ((f2.step H1.l1 (λy hy=>.inr (by simp at hy;rw[hy,HB.o0];exact qae _))).step H2.out.fr (λy hy=>.inr (by simp[blk]at hy;rw[hy,HB.o0];exact qae _)))
theorem qr2 (a:Option Addr) (cap:Nat) (bs:List UInt8) (w:World) (h:Rd w a cap bs):Calls Tryz.prog 69 #[.int .i64 3,.slice a bs.length cap] w λe w'=>(∃ao c,e = .returned (.slice ao 4 c)∧Rd w' ao c (be4 (adler bs)))∧Fr [] w w':=by have H:=zhd h;clear h;go_enter Tryz.func69,Tryz.ntmps69;go_upto_region 2 with (go_at_call 106;refine (qtc _).mono ?_;rintro e w1 ⟨rfl,A1,f1⟩);have hw:=qr1 w.heap.size 1 0 cap a bs w1 A1 (H.out.fr f1) (λhb x hx=>by have:=qmj H.out hb x hx;omega);have H1:=zhd2 hw f1;clear hw f1 A1;go_upto_region 3 with (go_at_call 94;refine H1.o0.mono ?_;rintro e w2 ⟨rfl,f2,A2⟩);have hs:=qw1 _ _ _ w2 A2;have H2:=zhd2 hs f2;clear hs f2 A2;go_wp2_with (go_at_call 96;refine H2.o0.mono ?_;rintro e w3 ⟨⟨a3,c3,rfl,r3⟩,f3⟩);go_ret;exact⟨⟨a3,c3,rfl,r3⟩,(H1.l1.step H2.l1 (λy hy=>.inr (by simp at hy;rw[hy];exact qae _))).trans f3⟩
theorem qry (a:Option Addr) (cap:Nat) (bs:List UInt8) (w:World) (h:Rd w a cap bs):Calls Tryz.prog 104 #[.slice a bs.length cap] w λe w'=>e = .returned (.int .u32 (adler bs))∧Fr [] w w':=by
 have hw:=qr2 a cap bs w h;have hn:=λa cap w h=>qob a cap (adler bs) w (qj0 bs) h
 have H:=zhd2 hw hn;clear hw hn h;go_enter Tryz.func104,Tryz.ntmps104;go_wp2_with (first|(go_at_call 69;refine H.o0.mono ?_;rintro e w1 ⟨⟨a1,c1,rfl,r1⟩,f1⟩;have H1:=zhd2 r1 f1;clear r1 f1)|(go_at_call 111;refine (H.l1 a1 c1 _ H1.o0).mono ?_;rintro e w2 ⟨rfl,f2⟩));go_ret;exact⟨rfl,H1.l1.trans f2⟩
end Go.Proofs.YtkmpfgpfbmeihaaGreatDoor.sums
namespace Go.Proofs.YtkmpfgpfbmeihaaGreatDoor.sha
open Go Go.RowKit lib
theorem qdt (x:Int) (n:Nat) (w:World) (hn:n=1∨n=5∨n=30) :
  Calls Tryz.prog 147 #[.int .u32 x,.int .i64 n] w λe w'=>e = .returned (.int .u32 (rol x n))∧w'=w:=by
 have h31:bits .and .u64 (n:Int) 31=(n:Int):=by rcases hn with rfl|rfl|rfl<;>decide +kernel
 have h0:1≤n∧n≤30:=by omega
 clear hn;go_enter Tryz.func147,Tryz.ntmps147;go_wp2;go_ret;exact⟨rfl,rfl⟩
theorem qpe (b c d:Int) (w:World):Calls Tryz.prog 178 #[.int .u32 b,.int .u32 c,.int .u32 d] w λe w'=>e = .returned (.int .u32 (par b c d))∧w'=w:=by go_enter Tryz.func178,Tryz.ntmps178;go_wp2;go_ret;exact⟨rfl,rfl⟩
theorem quv (b c d:Int) (w:World):Calls Tryz.prog 179 #[.int .u32 b,.int .u32 c,.int .u32 d] w λe w'=>e = .returned (.int .u32 (ch b c d))∧w'=w:=by go_enter Tryz.func179,Tryz.ntmps179;go_wp2;go_ret;exact⟨rfl,rfl⟩
theorem qpm (b c d:Int) (w:World):Calls Tryz.prog 180 #[.int .u32 b,.int .u32 c,.int .u32 d] w λe w'=>e = .returned (.int .u32 (maj b c d))∧w'=w:=by go_enter Tryz.func180,Tryz.ntmps180;go_wp2;go_ret;exact⟨rfl,rfl⟩
def fns:Array Value:=#[.func (.func 179) #[] #[],.func (.func 178) #[] #[],.func (.func 180) #[] #[],.func (.func 178) #[] #[]]
def kns:Array Value:=#[.int .u32 1518500249,.int .u32 1859775393,.int .u32 2400959708,.int .u32 3395469782]
theorem qw4 (w:World):Calls Tryz.prog 148 #[] w λe w'=>e = .returned (.tuple #[.agg fns,.agg kns])∧Fr [] w w':=by go_enter Tryz.func148,Tryz.ntmps148;go_wp2;refine bodyPost_ret (v:=.tuple #[.agg fns,.agg kns]) (by simp[results,Tryz.results148,go_sem,fns,kns]) rfl ?_;exact⟨rfl,((Fr.refl [] w).alloc _).alloc _⟩
end Go.Proofs.YtkmpfgpfbmeihaaGreatDoor.sha
